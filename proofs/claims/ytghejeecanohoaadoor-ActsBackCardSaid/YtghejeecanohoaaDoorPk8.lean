/- Parts of the proof, one behind the other (ActJ, ActK, ActL, ActM, ActN, ActO). -/
import Derived.Test.YtghejeecanohoaaDoorPk7
/-! Events: their lines. -/
set_option linter.unusedVariables false
set_option linter.unusedSimpArgs false
set_option maxRecDepth 100000
set_option maxHeartbeats 4000000
namespace Go.Proofs.YtghejeecanohoaaDoor
open Go.Eng

def hexP (l : List Int) : List Int := if l = [] then [46] else hexL l
theorem hexS_eq (l : List Int) : hexS l = strOfNums (hexP l) := by
  unfold hexS hexP
  split
  · rfl
  · rfl
theorem hexP_len (l : List Int) : (hexP l).length ≤ 2 * l.length + 1 := by
  unfold hexP
  split
  · simp
  · rw [hexL_len]; omega
/-- A word of an event's line. -/
def wordL (e : Ev) (w : Int) : List Int :=
  if w = 0 then decL e.2.1.toNat else
  if w = 1 then decL e.2.2.1.toNat else
  if w = 2 then decL e.2.2.2.1.toNat else
  if w = 3 then hexP (bytesL e.2.2.2.2.1) else
  if w = 4 then hexP e.2.2.2.2.2.1 else hexP [e.2.2.2.2.2.2]
def addW (e : Ev) (s : List Int) (w : Int) : List Int := s ++ 32 :: wordL e w
def lineFrom (e : Ev) (ws : List Int) (s : List Int) : List Int := ws.foldl (addW e) s
theorem lineFrom_snoc (e : Ev) (ws : List Int) (w : Int) (s : List Int) : lineFrom e (ws ++ [w]) s = lineFrom e ws s ++ 32 :: wordL e w := by simp [lineFrom, addW]
def lineL (e : Ev) : List Int := lineFrom e (nameF e.1).2 (bytesL (nameF e.1).1)
theorem wordL_len {e : Ev} (h : rightP e) (w : Int) : (wordL e w).length ≤ 130 := by
  obtain ⟨r1, r2, r3, r4, r5, r6, r7⟩ := h
  unfold okN at r2 r3 r4
  have d : ∀ n : Int, 0 ≤ n ∧ n ≤ 1048576 → (decL n.toNat).length ≤ 130 := fun n hn => by
    have := decL_len 7 n.toNat (by omega)
    omega
  have h1 := hexP_len (bytesL e.2.2.2.2.1)
  rw [bytesL_length] at h1
  have h2 := hexP_len e.2.2.2.2.2.1
  have h3 := hexP_len [e.2.2.2.2.2.2]
  simp only [List.length_singleton] at h3
  unfold wordL
  split
  · exact d _ r2
  · split
    · exact d _ r3
    · split
      · exact d _ r4
      · split
        · omega
        · split
          · omega
          · omega
theorem lineFrom_len {e : Ev} (h : rightP e) : ∀ (ws s : List Int), (lineFrom e ws s).length ≤ s.length + 131 * ws.length
  | [], s => by simp [lineFrom]
  | w :: ws, s => by
    have := lineFrom_len h ws (addW e s w)
    have h2 := wordL_len h w
    simp only [addW, List.length_append, List.length_cons] at this ⊢
    show (lineFrom e ws (addW e s w)).length ≤ _
    simp only [addW]
    omega
theorem name_len (k : Int) : (bytesL (nameF k).1).length ≤ 7 := by
  rcases kinds k with rfl | rfl | rfl | rfl | rfl | rfl | rfl | rfl | rfl | rfl | rfl | hk
  case inr.inr.inr.inr.inr.inr.inr.inr.inr.inr.inr => rw [nameF_none hk]; decide
  all_goals decide

theorem knownJ : Known Tryd.prog (gOf [(26, nameC), (11, rightC), (34, itoaC), (35, hexesC)]) :=
  known_cons ⟨name_ok, Tryd.call26⟩ (known_cons ⟨right_ok, Tryd.call11⟩ (known_cons ⟨itoa_ok, Tryd.call34⟩ (known_cons ⟨hexes_ok, Tryd.call35⟩ (known_nil _))))
noncomputable def actLine (e : Ev) : List Int := if rightB e then lineL e else []
@[reducible] noncomputable def lineC : Ctr := {
  X := Ev
  Y := Unit
  args := fun e => [.agg (evS true e)]
  rw := fun _ => []
  side := fun e => okEv e
  val := fun _ => ()
  ens := fun _ _ => True
  res := fun e _ => .v (.string (strOfNums (actLine e)))
  out := fun _ _ => [] }
@[reducible] def lineLp (e : Ev) : LA := {
  X := Nat
  pre := fun i => i ≤ (nameF e.1).2.length
  mu := fun i => (nameF e.1).2.length - i
  T := fun i => [(1, .ptr 1 0), (3, .v (.string (strOfNums (lineFrom e ((nameF e.1).2.take i) (bytesL (nameF e.1).1))))), (16, .ro false (.int .i64) (nameF e.1).2), (17, .v (.int .i64 (nameF e.1).2.length)), (18, .v (.int .i64 (i : Nat)))]
  M := fun i => [(1, .cells 24 (evS true e))] }
theorem line_ok : lineC.ok Tryd.prog 14 := by
  refine ok_of_vc (An := fun (e : Ev) => anOf [(0, .loop (lineLp e))]) knownJ mo Tryd.func14 (by kernel_rfl) (by kernel_rfl) (fun _ _ => trivial) (fun (e : Ev) hs => ?_)
  have hok : okEv e := hs
  by_cases hr : rightP e
  · have k0 := rightB_true hr
    have hv : actLine e = lineL e := if_pos k0
    have hwl := words_len e.1
    ((repeat' ((conv => whnf) <;> first | exact True.intro | (guard_target =~ Fork _ _ _; first | refine F1 ?_ | refine F2 ?_ | refine F3 (fun h => ?_) fun h => ?_) | (guard_target =~ Ar _ _ _; first | refine A1 ?_ | refine A2 ?_ | refine A3 ?_) | (guard_target =~ AskL _ _; first | refine L1 ?_) | (guard_target =~ Go.Eng.Ask _ _; first | refine K1 ?_) | (guard_target =~ All' _ _; first | (refine Y2 fun y he he' hy => ?_; (try dsimp only at he he' hy)) | (refine Y1 fun y he hy => ?_; (try with_reducible conv at he => (rhs; whnf)); (try dsimp only at he hy)) | (refine All'.mk ?_; intro y hy)) | refine F4 (fun h => ?_) fun h => ?_ | refine R1 ?_ | refine Q1 ?_ | fail)); all_goals (conv => whnf))
    refine CallP.mk (C := rightC) e ?_
    have lm := k0
    ((repeat' ((conv => whnf) <;> first | exact True.intro | (guard_target =~ Fork _ _ _; first | refine F1 ?_ | refine F2 ?_ | refine F3 (fun h => ?_) fun h => ?_) | (guard_target =~ Ar _ _ _; first | refine A1 ?_ | refine A2 ?_ | refine A3 ?_) | (guard_target =~ AskL _ _; first | refine L1 ?_) | (guard_target =~ Go.Eng.Ask _ _; first | refine K1 ?_) | (guard_target =~ All' _ _; first | (refine Y2 fun y he he' hy => ?_; (try dsimp only at he he' hy)) | (refine Y1 fun y he hy => ?_; (try with_reducible conv at he => (rhs; whnf)); (try dsimp only at he hy)) | (refine All'.mk ?_; intro y hy)) | refine F4 (fun h => ?_) fun h => ?_ | refine R1 ?_ | refine Q1 ?_ | fail)); all_goals (conv => whnf))
    refine CallP.mk (C := nameC) e.1 ?_
    ((repeat' ((conv => whnf) <;> first | exact True.intro | (guard_target =~ Fork _ _ _; first | refine F1 ?_ | refine F2 ?_ | refine F3 (fun h => ?_) fun h => ?_) | (guard_target =~ Ar _ _ _; first | refine A1 ?_ | refine A2 ?_ | refine A3 ?_) | (guard_target =~ AskL _ _; first | refine L1 ?_) | (guard_target =~ Go.Eng.Ask _ _; first | refine K1 ?_) | (guard_target =~ All' _ _; first | (refine Y2 fun y he he' hy => ?_; (try dsimp only at he he' hy)) | (refine Y1 fun y he hy => ?_; (try with_reducible conv at he => (rhs; whnf)); (try dsimp only at he hy)) | (refine All'.mk ?_; intro y hy)) | refine F4 (fun h => ?_) fun h => ?_ | refine R1 ?_ | refine Q1 ?_ | fail)); all_goals (conv => whnf))
    refine Some'.mk (0 : Nat) ?_
    ((repeat' ((conv => whnf) <;> first | exact True.intro | (guard_target =~ Fork _ _ _; first | refine F1 ?_ | refine F2 ?_ | refine F3 (fun h => ?_) fun h => ?_) | (guard_target =~ Ar _ _ _; first | refine A1 ?_ | refine A2 ?_ | refine A3 ?_) | (guard_target =~ Go.Eng.Ask _ _; first | refine K1 ?_) | (guard_target =~ All' _ _; first | (refine Y2 fun y he he' hy => ?_; (try dsimp only at he he' hy)) | (refine Y1 fun y he hy => ?_; (try with_reducible conv at he => (rhs; whnf)); (try dsimp only at he hy)) | (refine All'.mk ?_; intro y hy)) | refine F4 (fun h => ?_) fun h => ?_ | refine R1 ?_ | refine Q1 ?_ | fail)); all_goals (conv => whnf))
    have hb := str_bytesL (nameF e.1).1
    refine AskL.mk ?_ ?_
    · (dsimp only [conj]; repeat' apply And.intro) <;> first | rfl | exact hb.symm
    ((repeat' ((conv => whnf) <;> first | exact True.intro | (guard_target =~ Fork _ _ _; first | refine F1 ?_ | refine F2 ?_ | refine F3 (fun h => ?_) fun h => ?_) | (guard_target =~ Ar _ _ _; first | refine A1 ?_ | refine A2 ?_ | refine A3 ?_) | (guard_target =~ AskL _ _; first | refine L1 ?_) | (guard_target =~ Go.Eng.Ask _ _; first | refine K1 ?_) | (guard_target =~ All' _ _; first | (refine Y2 fun y he he' hy => ?_; (try dsimp only at he he' hy)) | (refine Y1 fun y he hy => ?_; (try with_reducible conv at he => (rhs; whnf)); (try dsimp only at he hy)) | (refine All'.mk ?_; intro y hy)) | refine F4 (fun h => ?_) fun h => ?_ | refine R1 ?_ | refine Q1 ?_ | fail)); all_goals (conv => whnf))
    refine AllI.mk ?_
    rintro (i : Nat) hi
    have hi : i ≤ (nameF e.1).2.length := hi
    by_cases he : i = (nameF e.1).2.length
    · subst he
      have ht : (nameF e.1).2.take (nameF e.1).2.length = (nameF e.1).2 := List.take_length
      dsimp only [lineLp]
      rw [ht, show lineFrom e (nameF e.1).2 (bytesL (nameF e.1).1) = actLine e from hv.symm]
      exact G1
    · obtain ⟨w, hw⟩ : ∃ w, (nameF e.1).2[i]? = some w := ⟨_, List.getElem?_eq_getElem (by omega)⟩
      have ht := take_get hw
      have hsn := lineFrom_snoc e ((nameF e.1).2.take i) w (bytesL (nameF e.1).1)
      rw [← ht] at hsn
      have hln := lineFrom_len hr ((nameF e.1).2.take i) (bytesL (nameF e.1).1)
      have hnl := name_len e.1
      have htl : ((nameF e.1).2.take i).length ≤ 4 := by rw [List.length_take]; omega
      dsimp only [lineLp]
      generalize lineFrom e ((nameF e.1).2.take i) (bytesL (nameF e.1).1) = acc at hsn hln
      have h32 : (⟨#[32]⟩ : ByteArray).size = 1 := rfl
      have hz : (strOfNums acc).size = acc.length := str_size acc
      have e32 : strOfNums acc ++ ⟨#[32]⟩ = strOfNums (acc ++ [32]) := str_cat acc [32]
      have hz2 : (strOfNums acc ++ ⟨#[32]⟩).size = acc.length + 1 := by rw [e32, str_size, List.length_append]; rfl
      have hwz := wordL_len hr w
      have d1 : itoaS e.2.1 = strOfNums (decL e.2.1.toNat) := itoa_dec hr.2.1.1
      have d2 : itoaS e.2.2.1 = strOfNums (decL e.2.2.1.toNat) := itoa_dec hr.2.2.1.1
      have d3 : itoaS e.2.2.2.1 = strOfNums (decL e.2.2.2.1.toNat) := itoa_dec hr.2.2.2.1.1
      have b1 := hr.2.1
      have b2 := hr.2.2.1
      have b3 := hr.2.2.2.1
      unfold okN at b1 b2 b3
      have b4 := hr.2.2.2.2.1
      have b5 := hr.2.2.2.2.2.1
      have b6 := bytesL_length e.2.2.2.2.1
      ((repeat' ((conv => whnf) <;> first | exact True.intro | (guard_target =~ Fork _ _ _; first | refine F1 ?_ | refine F2 ?_ | refine F3 (fun h => ?_) fun h => ?_) | (guard_target =~ Ar _ _ _; first | refine A1 ?_ | refine A2 ?_ | refine A3 ?_) | (guard_target =~ AskL _ _; first | refine L1 ?_) | (guard_target =~ Go.Eng.Ask _ _; first | refine K1 ?_) | (guard_target =~ All' _ _; first | (refine Y2 fun y he he' hy => ?_; (try dsimp only at he he' hy)) | (refine Y1 fun y he hy => ?_; (try with_reducible conv at he => (rhs; whnf)); (try dsimp only at he hy))) | refine F4 (fun h => ?_) fun h => ?_ | refine R1 ?_ | refine Q1 ?_ | fail)); all_goals (conv => whnf))
      refine All'.mk ?_; rintro (w' : Int) hw'
      obtain rfl : w = w' := Option.some.inj (hw.symm.trans hw')
      ((repeat' ((conv => whnf) <;> first | exact True.intro | (guard_target =~ Fork _ _ _; first | refine F1 ?_ | refine F2 ?_ | refine F3 (fun h => ?_) fun h => ?_) | (guard_target =~ Ar _ _ _; first | refine A1 ?_ | refine A2 ?_ | refine A3 ?_) | (guard_target =~ AskL _ _; first | refine L1 ?_) | (guard_target =~ Go.Eng.Ask _ _; first | refine K1 ?_) | (guard_target =~ All' _ _; first | (refine Y2 fun y he he' hy => ?_; (try dsimp only at he he' hy)) | (refine Y1 fun y he hy => ?_; (try with_reducible conv at he => (rhs; whnf)); (try dsimp only at he hy)) | (refine All'.mk ?_; intro y hy)) | refine F4 (fun h => ?_) fun h => ?_ | refine R1 ?_ | refine Q1 ?_ | fail)); all_goals (conv => whnf))
      · obtain rfl : w = 0 := h
        have hW : wordL e 0 = decL e.2.1.toNat := rfl
        refine CallP.mk (C := itoaC) e.2.1 ?_
        have hd : (itoaS e.2.1).size ≤ 130 := by rw [d1, str_size, ← hW]; exact hwz
        ((repeat' ((conv => whnf) <;> first | exact True.intro | (guard_target =~ Fork _ _ _; first | refine F1 ?_ | refine F2 ?_ | refine F3 (fun h => ?_) fun h => ?_) | (guard_target =~ Ar _ _ _; first | refine A1 ?_ | refine A2 ?_ | refine A3 ?_) | (guard_target =~ AskL _ _; first | refine L1 ?_) | (guard_target =~ Go.Eng.Ask _ _; first | refine K1 ?_) | (guard_target =~ All' _ _; first | (refine Y2 fun y he he' hy => ?_; (try dsimp only at he he' hy)) | (refine Y1 fun y he hy => ?_; (try with_reducible conv at he => (rhs; whnf)); (try dsimp only at he hy)) | (refine All'.mk ?_; intro y hy)) | refine F4 (fun h => ?_) fun h => ?_ | refine R1 ?_ | refine Q1 ?_ | fail)); all_goals (conv => whnf))
        refine Some'.mk (i + 1) ?_
        ((repeat' ((conv => whnf) <;> first | exact True.intro | (guard_target =~ Fork _ _ _; first | refine F1 ?_ | refine F2 ?_ | refine F3 (fun h => ?_) fun h => ?_) | (guard_target =~ Ar _ _ _; first | refine A1 ?_ | refine A2 ?_ | refine A3 ?_) | (guard_target =~ Go.Eng.Ask _ _; first | refine K1 ?_) | (guard_target =~ All' _ _; first | (refine Y2 fun y he he' hy => ?_; (try dsimp only at he he' hy)) | (refine Y1 fun y he hy => ?_; (try with_reducible conv at he => (rhs; whnf)); (try dsimp only at he hy)) | (refine All'.mk ?_; intro y hy)) | refine F4 (fun h => ?_) fun h => ?_ | refine R1 ?_ | refine Q1 ?_ | fail)); all_goals (conv => whnf))
        refine AskL.mk ?_ ?_
        · rw [hsn, d1, ← hW, e32, str_cat, List.append_assoc]
          (dsimp only [conj]; repeat' apply And.intro) <;> first | rfl | omega
        exact G1
      · obtain rfl : w = 1 := h
        have hW : wordL e 1 = decL e.2.2.1.toNat := rfl
        refine CallP.mk (C := itoaC) e.2.2.1 ?_
        have hd : (itoaS e.2.2.1).size ≤ 130 := by rw [d2, str_size, ← hW]; exact hwz
        ((repeat' ((conv => whnf) <;> first | exact True.intro | (guard_target =~ Fork _ _ _; first | refine F1 ?_ | refine F2 ?_ | refine F3 (fun h => ?_) fun h => ?_) | (guard_target =~ Ar _ _ _; first | refine A1 ?_ | refine A2 ?_ | refine A3 ?_) | (guard_target =~ AskL _ _; first | refine L1 ?_) | (guard_target =~ Go.Eng.Ask _ _; first | refine K1 ?_) | (guard_target =~ All' _ _; first | (refine Y2 fun y he he' hy => ?_; (try dsimp only at he he' hy)) | (refine Y1 fun y he hy => ?_; (try with_reducible conv at he => (rhs; whnf)); (try dsimp only at he hy)) | (refine All'.mk ?_; intro y hy)) | refine F4 (fun h => ?_) fun h => ?_ | refine R1 ?_ | refine Q1 ?_ | fail)); all_goals (conv => whnf))
        refine Some'.mk (i + 1) ?_
        ((repeat' ((conv => whnf) <;> first | exact True.intro | (guard_target =~ Fork _ _ _; first | refine F1 ?_ | refine F2 ?_ | refine F3 (fun h => ?_) fun h => ?_) | (guard_target =~ Ar _ _ _; first | refine A1 ?_ | refine A2 ?_ | refine A3 ?_) | (guard_target =~ Go.Eng.Ask _ _; first | refine K1 ?_) | (guard_target =~ All' _ _; first | (refine Y2 fun y he he' hy => ?_; (try dsimp only at he he' hy)) | (refine Y1 fun y he hy => ?_; (try with_reducible conv at he => (rhs; whnf)); (try dsimp only at he hy)) | (refine All'.mk ?_; intro y hy)) | refine F4 (fun h => ?_) fun h => ?_ | refine R1 ?_ | refine Q1 ?_ | fail)); all_goals (conv => whnf))
        refine AskL.mk ?_ ?_
        · rw [hsn, d2, ← hW, e32, str_cat, List.append_assoc]
          (dsimp only [conj]; repeat' apply And.intro) <;> first | rfl | omega
        exact G1
      · obtain rfl : w = 2 := h
        have hW : wordL e 2 = decL e.2.2.2.1.toNat := rfl
        refine CallP.mk (C := itoaC) e.2.2.2.1 ?_
        have hd : (itoaS e.2.2.2.1).size ≤ 130 := by rw [d3, str_size, ← hW]; exact hwz
        ((repeat' ((conv => whnf) <;> first | exact True.intro | (guard_target =~ Fork _ _ _; first | refine F1 ?_ | refine F2 ?_ | refine F3 (fun h => ?_) fun h => ?_) | (guard_target =~ Ar _ _ _; first | refine A1 ?_ | refine A2 ?_ | refine A3 ?_) | (guard_target =~ AskL _ _; first | refine L1 ?_) | (guard_target =~ Go.Eng.Ask _ _; first | refine K1 ?_) | (guard_target =~ All' _ _; first | (refine Y2 fun y he he' hy => ?_; (try dsimp only at he he' hy)) | (refine Y1 fun y he hy => ?_; (try with_reducible conv at he => (rhs; whnf)); (try dsimp only at he hy)) | (refine All'.mk ?_; intro y hy)) | refine F4 (fun h => ?_) fun h => ?_ | refine R1 ?_ | refine Q1 ?_ | fail)); all_goals (conv => whnf))
        refine Some'.mk (i + 1) ?_
        ((repeat' ((conv => whnf) <;> first | exact True.intro | (guard_target =~ Fork _ _ _; first | refine F1 ?_ | refine F2 ?_ | refine F3 (fun h => ?_) fun h => ?_) | (guard_target =~ Ar _ _ _; first | refine A1 ?_ | refine A2 ?_ | refine A3 ?_) | (guard_target =~ Go.Eng.Ask _ _; first | refine K1 ?_) | (guard_target =~ All' _ _; first | (refine Y2 fun y he he' hy => ?_; (try dsimp only at he he' hy)) | (refine Y1 fun y he hy => ?_; (try with_reducible conv at he => (rhs; whnf)); (try dsimp only at he hy)) | (refine All'.mk ?_; intro y hy)) | refine F4 (fun h => ?_) fun h => ?_ | refine R1 ?_ | refine Q1 ?_ | fail)); all_goals (conv => whnf))
        refine AskL.mk ?_ ?_
        · rw [hsn, d3, ← hW, e32, str_cat, List.append_assoc]
          (dsimp only [conj]; repeat' apply And.intro) <;> first | rfl | omega
        exact G1
      · obtain rfl : w = 3 := h
        have hW : wordL e 3 = hexP (bytesL e.2.2.2.2.1) := rfl
        have hd : (hexS (bytesL e.2.2.2.2.1)).size ≤ 130 := by rw [hexS_eq, str_size, ← hW]; exact hwz
        refine CallP.mk (C := hexesC) (bytesL e.2.2.2.2.1) ?_
        ((repeat' ((conv => whnf) <;> first | exact True.intro | (guard_target =~ Fork _ _ _; first | refine F1 ?_ | refine F2 ?_ | refine F3 (fun h => ?_) fun h => ?_) | (guard_target =~ Ar _ _ _; first | refine A1 ?_ | refine A2 ?_ | refine A3 ?_) | (guard_target =~ Go.Eng.Ask _ _; first | refine K1 ?_) | (guard_target =~ All' _ _; first | (refine Y2 fun y he he' hy => ?_; (try dsimp only at he he' hy)) | (refine Y1 fun y he hy => ?_; (try with_reducible conv at he => (rhs; whnf)); (try dsimp only at he hy)) | (refine All'.mk ?_; intro y hy)) | refine F4 (fun h => ?_) fun h => ?_ | refine R1 ?_ | refine Q1 ?_ | fail)); all_goals (conv => whnf))
        refine AskL.mk ?_ ?_
        · dsimp only [conj]
        refine Ask.mk ⟨bytesL_ok _, by omega⟩ ?_
        ((repeat' ((conv => whnf) <;> first | exact True.intro | (guard_target =~ Fork _ _ _; first | refine F1 ?_ | refine F2 ?_ | refine F3 (fun h => ?_) fun h => ?_) | (guard_target =~ Ar _ _ _; first | refine A1 ?_ | refine A2 ?_ | refine A3 ?_) | (guard_target =~ AskL _ _; first | refine L1 ?_) | (guard_target =~ Go.Eng.Ask _ _; first | refine K1 ?_) | (guard_target =~ All' _ _; first | (refine Y2 fun y he he' hy => ?_; (try dsimp only at he he' hy)) | (refine Y1 fun y he hy => ?_; (try with_reducible conv at he => (rhs; whnf)); (try dsimp only at he hy)) | (refine All'.mk ?_; intro y hy)) | refine F4 (fun h => ?_) fun h => ?_ | refine R1 ?_ | refine Q1 ?_ | fail)); all_goals (conv => whnf))
        refine Some'.mk (i + 1) ?_
        ((repeat' ((conv => whnf) <;> first | exact True.intro | (guard_target =~ Fork _ _ _; first | refine F1 ?_ | refine F2 ?_ | refine F3 (fun h => ?_) fun h => ?_) | (guard_target =~ Ar _ _ _; first | refine A1 ?_ | refine A2 ?_ | refine A3 ?_) | (guard_target =~ Go.Eng.Ask _ _; first | refine K1 ?_) | (guard_target =~ All' _ _; first | (refine Y2 fun y he he' hy => ?_; (try dsimp only at he he' hy)) | (refine Y1 fun y he hy => ?_; (try with_reducible conv at he => (rhs; whnf)); (try dsimp only at he hy)) | (refine All'.mk ?_; intro y hy)) | refine F4 (fun h => ?_) fun h => ?_ | refine R1 ?_ | refine Q1 ?_ | fail)); all_goals (conv => whnf))
        refine AskL.mk ?_ ?_
        · rw [hsn, hexS_eq, ← hW, e32, str_cat, List.append_assoc]
          (dsimp only [conj]; repeat' apply And.intro) <;> first | rfl | omega
        exact G1
      · obtain rfl : w = 4 := h
        have hW : wordL e 4 = hexP e.2.2.2.2.2.1 := rfl
        have hd : (hexS e.2.2.2.2.2.1).size ≤ 130 := by rw [hexS_eq, str_size, ← hW]; exact hwz
        refine CallP.mk (C := hexesC) e.2.2.2.2.2.1 ?_
        ((repeat' ((conv => whnf) <;> first | exact True.intro | (guard_target =~ Fork _ _ _; first | refine F1 ?_ | refine F2 ?_ | refine F3 (fun h => ?_) fun h => ?_) | (guard_target =~ Ar _ _ _; first | refine A1 ?_ | refine A2 ?_ | refine A3 ?_) | (guard_target =~ Go.Eng.Ask _ _; first | refine K1 ?_) | (guard_target =~ All' _ _; first | (refine Y2 fun y he he' hy => ?_; (try dsimp only at he he' hy)) | (refine Y1 fun y he hy => ?_; (try with_reducible conv at he => (rhs; whnf)); (try dsimp only at he hy)) | (refine All'.mk ?_; intro y hy)) | refine F4 (fun h => ?_) fun h => ?_ | refine R1 ?_ | refine Q1 ?_ | fail)); all_goals (conv => whnf))
        refine AskL.mk ?_ ?_
        · dsimp only [conj]
        refine Ask.mk ⟨hok.2.1, by omega⟩ ?_
        ((repeat' ((conv => whnf) <;> first | exact True.intro | (guard_target =~ Fork _ _ _; first | refine F1 ?_ | refine F2 ?_ | refine F3 (fun h => ?_) fun h => ?_) | (guard_target =~ Ar _ _ _; first | refine A1 ?_ | refine A2 ?_ | refine A3 ?_) | (guard_target =~ AskL _ _; first | refine L1 ?_) | (guard_target =~ Go.Eng.Ask _ _; first | refine K1 ?_) | (guard_target =~ All' _ _; first | (refine Y2 fun y he he' hy => ?_; (try dsimp only at he he' hy)) | (refine Y1 fun y he hy => ?_; (try with_reducible conv at he => (rhs; whnf)); (try dsimp only at he hy)) | (refine All'.mk ?_; intro y hy)) | refine F4 (fun h => ?_) fun h => ?_ | refine R1 ?_ | refine Q1 ?_ | fail)); all_goals (conv => whnf))
        refine Some'.mk (i + 1) ?_
        ((repeat' ((conv => whnf) <;> first | exact True.intro | (guard_target =~ Fork _ _ _; first | refine F1 ?_ | refine F2 ?_ | refine F3 (fun h => ?_) fun h => ?_) | (guard_target =~ Ar _ _ _; first | refine A1 ?_ | refine A2 ?_ | refine A3 ?_) | (guard_target =~ Go.Eng.Ask _ _; first | refine K1 ?_) | (guard_target =~ All' _ _; first | (refine Y2 fun y he he' hy => ?_; (try dsimp only at he he' hy)) | (refine Y1 fun y he hy => ?_; (try with_reducible conv at he => (rhs; whnf)); (try dsimp only at he hy)) | (refine All'.mk ?_; intro y hy)) | refine F4 (fun h => ?_) fun h => ?_ | refine R1 ?_ | refine Q1 ?_ | fail)); all_goals (conv => whnf))
        refine AskL.mk ?_ ?_
        · rw [hsn, hexS_eq, ← hW, e32, str_cat, List.append_assoc]
          (dsimp only [conj]; repeat' apply And.intro) <;> first | rfl | omega
        exact G1
      · have hW : wordL e w = hexP [e.2.2.2.2.2.2] := by
          simp only [wordL]
          (repeat first | rw [if_pos (by assumption)] | rw [if_neg (by assumption)])
        have hd : (hexS [e.2.2.2.2.2.2]).size ≤ 130 := by rw [hexS_eq, str_size, ← hW]; exact hwz
        refine CallP.mk (C := hexesC) [e.2.2.2.2.2.2] ?_
        ((repeat' ((conv => whnf) <;> first | exact True.intro | (guard_target =~ Fork _ _ _; first | refine F1 ?_ | refine F2 ?_ | refine F3 (fun h => ?_) fun h => ?_) | (guard_target =~ Ar _ _ _; first | refine A1 ?_ | refine A2 ?_ | refine A3 ?_) | (guard_target =~ Go.Eng.Ask _ _; first | refine K1 ?_) | (guard_target =~ All' _ _; first | (refine Y2 fun y he he' hy => ?_; (try dsimp only at he he' hy)) | (refine Y1 fun y he hy => ?_; (try with_reducible conv at he => (rhs; whnf)); (try dsimp only at he hy)) | (refine All'.mk ?_; intro y hy)) | refine F4 (fun h => ?_) fun h => ?_ | refine R1 ?_ | refine Q1 ?_ | fail)); all_goals (conv => whnf))
        refine AskL.mk ?_ ?_
        · (dsimp only [conj]; repeat' apply And.intro) <;> rfl
        refine Ask.mk ⟨okB_cons hok.2.2.1 (fun _ h => nomatch h), by show (1 : Nat) ≤ _; omega⟩ ?_
        ((repeat' ((conv => whnf) <;> first | exact True.intro | (guard_target =~ Fork _ _ _; first | refine F1 ?_ | refine F2 ?_ | refine F3 (fun h => ?_) fun h => ?_) | (guard_target =~ Ar _ _ _; first | refine A1 ?_ | refine A2 ?_ | refine A3 ?_) | (guard_target =~ AskL _ _; first | refine L1 ?_) | (guard_target =~ Go.Eng.Ask _ _; first | refine K1 ?_) | (guard_target =~ All' _ _; first | (refine Y2 fun y he he' hy => ?_; (try dsimp only at he he' hy)) | (refine Y1 fun y he hy => ?_; (try with_reducible conv at he => (rhs; whnf)); (try dsimp only at he hy)) | (refine All'.mk ?_; intro y hy)) | refine F4 (fun h => ?_) fun h => ?_ | refine R1 ?_ | refine Q1 ?_ | fail)); all_goals (conv => whnf))
        refine Some'.mk (i + 1) ?_
        ((repeat' ((conv => whnf) <;> first | exact True.intro | (guard_target =~ Fork _ _ _; first | refine F1 ?_ | refine F2 ?_ | refine F3 (fun h => ?_) fun h => ?_) | (guard_target =~ Ar _ _ _; first | refine A1 ?_ | refine A2 ?_ | refine A3 ?_) | (guard_target =~ Go.Eng.Ask _ _; first | refine K1 ?_) | (guard_target =~ All' _ _; first | (refine Y2 fun y he he' hy => ?_; (try dsimp only at he he' hy)) | (refine Y1 fun y he hy => ?_; (try with_reducible conv at he => (rhs; whnf)); (try dsimp only at he hy)) | (refine All'.mk ?_; intro y hy)) | refine F4 (fun h => ?_) fun h => ?_ | refine R1 ?_ | refine Q1 ?_ | fail)); all_goals (conv => whnf))
        refine AskL.mk ?_ ?_
        · rw [hsn, hexS_eq, ← hW, e32, str_cat, List.append_assoc]
          (dsimp only [conj]; repeat' apply And.intro) <;> first | rfl | omega
        exact G1
  · have k0 := rightB_false hr
    have hv : actLine e = [] := if_neg (by rw [k0]; simp)
    ((repeat' ((conv => whnf) <;> first | exact True.intro | (guard_target =~ Fork _ _ _; first | refine F1 ?_ | refine F2 ?_ | refine F3 (fun h => ?_) fun h => ?_) | (guard_target =~ Ar _ _ _; first | refine A1 ?_ | refine A2 ?_ | refine A3 ?_) | (guard_target =~ AskL _ _; first | refine L1 ?_) | (guard_target =~ Go.Eng.Ask _ _; first | refine K1 ?_) | (guard_target =~ All' _ _; first | (refine Y2 fun y he he' hy => ?_; (try dsimp only at he he' hy)) | (refine Y1 fun y he hy => ?_; (try with_reducible conv at he => (rhs; whnf)); (try dsimp only at he hy)) | (refine All'.mk ?_; intro y hy)) | refine F4 (fun h => ?_) fun h => ?_ | refine R1 ?_ | refine Q1 ?_ | fail)); all_goals (conv => whnf))
    refine CallP.mk (C := rightC) e ?_
    have lm := k0
    ((repeat' ((conv => whnf) <;> first | exact True.intro | (guard_target =~ Fork _ _ _; first | refine F1 ?_ | refine F2 ?_ | refine F3 (fun h => ?_) fun h => ?_) | (guard_target =~ Ar _ _ _; first | refine A1 ?_ | refine A2 ?_ | refine A3 ?_) | (guard_target =~ AskL _ _; first | refine L1 ?_) | (guard_target =~ Go.Eng.Ask _ _; first | refine K1 ?_) | (guard_target =~ All' _ _; first | (refine Y2 fun y he he' hy => ?_; (try dsimp only at he he' hy)) | (refine Y1 fun y he hy => ?_; (try with_reducible conv at he => (rhs; whnf)); (try dsimp only at he hy)) | (refine All'.mk ?_; intro y hy)) | refine F4 (fun h => ?_) fun h => ?_ | refine R1 ?_ | refine Q1 ?_ | fail)); all_goals (conv => whnf))
    refine AskL.mk ?_ trivial
    dsimp only [conj]
    rw [hv]; rfl
end Go.Proofs.YtghejeecanohoaaDoor

/-! Events: their lines, by the reference. (Printed by dev/genK.py.) -/
set_option linter.unusedVariables false
set_option linter.unusedSimpArgs false
set_option maxRecDepth 100000
set_option maxHeartbeats 4000000
namespace Go.Proofs.YtghejeecanohoaaDoor
open Go.Eng

theorem words_rng (k : Int) : ∀ w, w ∈ (nameF k).2 → w = 0 ∨ w = 1 ∨ w = 2 ∨ w = 3 ∨ w = 4 ∨ w = 5 := by
  rcases wordsG k with h | h | h | h | h | h | h | h <;> rw [h] <;> simp
theorem formF_size (ws : List Int) : (formF ws).size = ws.length := by
  show (Array.size _) = _
  simp
theorem formF_at {ws : List Int} {i : Nat} {w : Int} (h : ws[i]? = some w) : byteAt (formF ws) i = ((letF w).toNat : Int) := by
  have hi : i < (formF ws).size := by rw [formF_size]; exact (List.getElem?_eq_some_iff.1 h).1
  have h1 := byteAt_some hi
  have h2 : (bytesL (formF ws))[i]? = some ((letF w).toNat : Int) := by
    unfold bytesL formF
    simp only [List.map_map, List.getElem?_map, h]
    rfl
  exact Option.some.inj (h1.symm.trans h2)
theorem letF_rng (w : Int) : ((letF w).toNat : Int) < 128 := by
  unfold letF
  repeat' split
  all_goals decide
theorem formF_cut {ws : List Int} {i : Nat} {w : Int} (h : ws[i]? = some w) : (formF ws).extract ((i : Nat) : Int).toNat (((i : Nat) : Int) + 1).toNat = ⟨#[letF w]⟩ := by
  have hi : i < (formF ws).size := by rw [formF_size]; exact (List.getElem?_eq_some_iff.1 h).1
  have e : ((i : Nat) : Int).toNat = i ∧ (((i : Nat) : Int) + 1).toNat = i + 1 := ⟨by omega, by omega⟩
  rw [e.1, e.2, extract_at hi, formF_at h]
  have : strOfNums [((letF w).toNat : Int)] = ⟨#[UInt8.ofNat ((letF w).toNat : Int).toNat]⟩ := rfl
  rw [this]
  have e2 : UInt8.ofNat ((letF w).toNat : Int).toNat = letF w := by
    rw [Int.toNat_natCast]; exact UInt8.ofNat_toNat
  rw [e2]
theorem knownK : Known Tryd.prog (gOf [(20, formC), (22, digitsC), (23, rhexC), (24, rHexC)]) :=
  known_cons ⟨form_ok, Tryd.call20⟩ (known_cons ⟨digits_ok, Tryd.call22⟩ (known_cons ⟨rhex_ok, Tryd.call23⟩ (known_cons ⟨rHex_ok, Tryd.call24⟩ (known_nil _))))
@[reducible] noncomputable def rLineC : Ctr := {
  X := Ev
  Y := Unit
  args := fun e => [.agg (evS true e)]
  rw := fun _ => []
  side := fun e => okEv e ∧ rightP e
  val := fun _ => ()
  ens := fun _ _ => True
  res := fun e _ => .v (.string (strOfNums (lineL e)))
  out := fun _ _ => [] }
@[reducible] def rLineL (e : Ev) : LA := {
  X := Nat
  pre := fun i => i ≤ (nameF e.1).2.length
  mu := fun i => (nameF e.1).2.length - i
  T := fun i => [(1, .ptr 1 0), (3, .v (.string (strOfNums (lineFrom e ((nameF e.1).2.take i) (bytesL (nameF e.1).1))))), (4, .v (.string (formF (nameF e.1).2))), (13, .ptr 2 0)]
  M := fun i => [(1, .cells 24 (evS true e)), (2, .siter (formF (nameF e.1).2) i)] }
theorem rLine_ok : rLineC.ok Tryd.prog 8 := by
  refine ok_of_vc (An := fun (e : Ev) => anOf [(0, .loop (rLineL e))]) knownK mo Tryd.func8 (by kernel_rfl) (by kernel_rfl) (fun _ _ => trivial) (fun (e : Ev) hs => ?_)
  obtain ⟨hok, hr⟩ : okEv e ∧ rightP e := hs
  have hwl := words_len e.1
  ((repeat' ((conv => whnf) <;> first | exact True.intro | (guard_target =~ Fork _ _ _; first | refine F1 ?_ | refine F2 ?_ | refine F3 (fun h => ?_) fun h => ?_) | (guard_target =~ Ar _ _ _; first | refine A1 ?_ | refine A2 ?_ | refine A3 ?_) | (guard_target =~ AskL _ _; first | refine L1 ?_) | (guard_target =~ Go.Eng.Ask _ _; first | refine K1 ?_) | (guard_target =~ All' _ _; first | (refine Y2 fun y he he' hy => ?_; (try dsimp only at he he' hy)) | (refine Y1 fun y he hy => ?_; (try with_reducible conv at he => (rhs; whnf)); (try dsimp only at he hy)) | (refine All'.mk ?_; intro y hy)) | refine F4 (fun h => ?_) fun h => ?_ | refine R1 ?_ | refine Q1 ?_ | fail)); all_goals (conv => whnf))
  refine CallP.mk (C := formC) e.1 ?_
  ((repeat' ((conv => whnf) <;> first | exact True.intro | (guard_target =~ Fork _ _ _; first | refine F1 ?_ | refine F2 ?_ | refine F3 (fun h => ?_) fun h => ?_) | (guard_target =~ Ar _ _ _; first | refine A1 ?_ | refine A2 ?_ | refine A3 ?_) | (guard_target =~ AskL _ _; first | refine L1 ?_) | (guard_target =~ Go.Eng.Ask _ _; first | refine K1 ?_) | (guard_target =~ All' _ _; first | (refine Y2 fun y he he' hy => ?_; (try dsimp only at he he' hy)) | (refine Y1 fun y he hy => ?_; (try with_reducible conv at he => (rhs; whnf)); (try dsimp only at he hy)) | (refine All'.mk ?_; intro y hy)) | refine F4 (fun h => ?_) fun h => ?_ | refine R1 ?_ | refine Q1 ?_ | fail)); all_goals (conv => whnf))
  refine Some'.mk (0 : Nat) ?_
  ((repeat' ((conv => whnf) <;> first | exact True.intro | (guard_target =~ Fork _ _ _; first | refine F1 ?_ | refine F2 ?_ | refine F3 (fun h => ?_) fun h => ?_) | (guard_target =~ Ar _ _ _; first | refine A1 ?_ | refine A2 ?_ | refine A3 ?_) | (guard_target =~ Go.Eng.Ask _ _; first | refine K1 ?_) | (guard_target =~ All' _ _; first | (refine Y2 fun y he he' hy => ?_; (try dsimp only at he he' hy)) | (refine Y1 fun y he hy => ?_; (try with_reducible conv at he => (rhs; whnf)); (try dsimp only at he hy)) | (refine All'.mk ?_; intro y hy)) | refine F4 (fun h => ?_) fun h => ?_ | refine R1 ?_ | refine Q1 ?_ | fail)); all_goals (conv => whnf))
  have hb := str_bytesL (nameF e.1).1
  refine AskL.mk ?_ ?_
  · (dsimp only [conj]; repeat' apply And.intro) <;> first | rfl | exact hb.symm
  ((repeat' ((conv => whnf) <;> first | exact True.intro | (guard_target =~ Fork _ _ _; first | refine F1 ?_ | refine F2 ?_ | refine F3 (fun h => ?_) fun h => ?_) | (guard_target =~ Ar _ _ _; first | refine A1 ?_ | refine A2 ?_ | refine A3 ?_) | (guard_target =~ AskL _ _; first | refine L1 ?_) | (guard_target =~ Go.Eng.Ask _ _; first | refine K1 ?_) | (guard_target =~ All' _ _; first | (refine Y2 fun y he he' hy => ?_; (try dsimp only at he he' hy)) | (refine Y1 fun y he hy => ?_; (try with_reducible conv at he => (rhs; whnf)); (try dsimp only at he hy)) | (refine All'.mk ?_; intro y hy)) | refine F4 (fun h => ?_) fun h => ?_ | refine R1 ?_ | refine Q1 ?_ | fail)); all_goals (conv => whnf))
  refine AllI.mk ?_
  rintro (i : Nat) hi
  have hi : i ≤ (nameF e.1).2.length := hi
  have hfs := formF_size (nameF e.1).2
  by_cases he : i = (nameF e.1).2.length
  · subst he
    have ht : (nameF e.1).2.take (nameF e.1).2.length = (nameF e.1).2 := List.take_length
    dsimp only [rLineL]
    rw [ht, show lineFrom e (nameF e.1).2 (bytesL (nameF e.1).1) = lineL e from rfl]
    exact G1
  · obtain ⟨w, hw⟩ : ∃ w, (nameF e.1).2[i]? = some w := ⟨_, List.getElem?_eq_getElem (by omega)⟩
    have ht := take_get hw
    have hsn := lineFrom_snoc e ((nameF e.1).2.take i) w (bytesL (nameF e.1).1)
    rw [← ht] at hsn
    have hln := lineFrom_len hr ((nameF e.1).2.take i) (bytesL (nameF e.1).1)
    have hnl := name_len e.1
    have htl : ((nameF e.1).2.take i).length ≤ 4 := by rw [List.length_take]; omega
    dsimp only [rLineL]
    generalize lineFrom e ((nameF e.1).2.take i) (bytesL (nameF e.1).1) = acc at hsn hln
    have h32 : (⟨#[32]⟩ : ByteArray).size = 1 := rfl
    have hz : (strOfNums acc).size = acc.length := str_size acc
    have e32 : strOfNums acc ++ ⟨#[32]⟩ = strOfNums (acc ++ [32]) := str_cat acc [32]
    have hz2 : (strOfNums acc ++ ⟨#[32]⟩).size = acc.length + 1 := by rw [e32, str_size, List.length_append]; rfl
    have hwz := wordL_len hr w
    have b1 := hr.2.1
    have b2 := hr.2.2.1
    have b3 := hr.2.2.2.1
    unfold okN at b1 b2 b3
    have b4 := hr.2.2.2.2.1
    have b5 := hr.2.2.2.2.2.1
    have b6 := bytesL_length e.2.2.2.2.1
    have hat := formF_at hw
    have hrg := letF_rng w
    have hcut := formF_cut hw
    have hwr := words_rng e.1 w (List.mem_of_getElem? hw)
    generalize formF (nameF e.1).2 = F at hfs hat hcut
    rcases hwr with rfl | rfl | rfl | rfl | rfl | rfl
    · rw [show letF 0 = 97 from rfl] at hcut
      have k0 : ((F.extract ((i : Nat) : Int).toNat (((i : Nat) : Int) + 1).toNat).toList == (⟨#[97]⟩ : ByteArray).toList) = true := by rw [hcut, str_beq]; decide
      have k1 : ((F.extract ((i : Nat) : Int).toNat (((i : Nat) : Int) + 1).toNat).toList == (⟨#[98]⟩ : ByteArray).toList) = false := by rw [hcut, str_beq]; decide
      have k2 : ((F.extract ((i : Nat) : Int).toNat (((i : Nat) : Int) + 1).toNat).toList == (⟨#[110]⟩ : ByteArray).toList) = false := by rw [hcut, str_beq]; decide
      have k3 : ((F.extract ((i : Nat) : Int).toNat (((i : Nat) : Int) + 1).toNat).toList == (⟨#[107]⟩ : ByteArray).toList) = false := by rw [hcut, str_beq]; decide
      have k4 : ((F.extract ((i : Nat) : Int).toNat (((i : Nat) : Int) + 1).toNat).toList == (⟨#[118]⟩ : ByteArray).toList) = false := by rw [hcut, str_beq]; decide
      have k5 : ((F.extract ((i : Nat) : Int).toNat (((i : Nat) : Int) + 1).toNat).toList == (⟨#[120]⟩ : ByteArray).toList) = false := by rw [hcut, str_beq]; decide
      have lm := And.intro k0 (And.intro k1 (And.intro k2 (And.intro k3 (And.intro k4 k5))))
      ((repeat' ((conv => whnf) <;> first | exact True.intro | (guard_target =~ Fork _ _ _; first | refine F1 ?_ | refine F2 ?_ | refine F3 (fun h => ?_) fun h => ?_) | (guard_target =~ Ar _ _ _; first | refine A1 ?_ | refine A2 ?_ | refine A3 ?_) | (guard_target =~ AskL _ _; first | refine L1 ?_) | (guard_target =~ Go.Eng.Ask _ _; first | refine K1 ?_) | (guard_target =~ All' _ _; first | (refine Y2 fun y he he' hy => ?_; (try dsimp only at he he' hy)) | (refine Y1 fun y he hy => ?_; (try with_reducible conv at he => (rhs; whnf)); (try dsimp only at he hy)) | (refine All'.mk ?_; intro y hy)) | refine F4 (fun h => ?_) fun h => ?_ | refine R1 ?_ | refine Q1 ?_ | fail)); all_goals (conv => whnf))
      have hW : wordL e 0 = decL e.2.1.toNat := rfl
      refine CallP.mk (C := digitsC) e.2.1 ?_
      have hd : (strOfNums (decL e.2.1.toNat)).size ≤ 130 := by rw [str_size, ← hW]; exact hwz
      ((repeat' ((conv => whnf) <;> first | exact True.intro | (guard_target =~ Fork _ _ _; first | refine F1 ?_ | refine F2 ?_ | refine F3 (fun h => ?_) fun h => ?_) | (guard_target =~ Ar _ _ _; first | refine A1 ?_ | refine A2 ?_ | refine A3 ?_) | (guard_target =~ AskL _ _; first | refine L1 ?_) | (guard_target =~ Go.Eng.Ask _ _; first | refine K1 ?_) | (guard_target =~ All' _ _; first | (refine Y2 fun y he he' hy => ?_; (try dsimp only at he he' hy)) | (refine Y1 fun y he hy => ?_; (try with_reducible conv at he => (rhs; whnf)); (try dsimp only at he hy)) | (refine All'.mk ?_; intro y hy)) | refine F4 (fun h => ?_) fun h => ?_ | refine R1 ?_ | refine Q1 ?_ | fail)); all_goals (conv => whnf))
      refine Some'.mk (i + 1) ?_
      ((repeat' ((conv => whnf) <;> first | exact True.intro | (guard_target =~ Fork _ _ _; first | refine F1 ?_ | refine F2 ?_ | refine F3 (fun h => ?_) fun h => ?_) | (guard_target =~ Ar _ _ _; first | refine A1 ?_ | refine A2 ?_ | refine A3 ?_) | (guard_target =~ Go.Eng.Ask _ _; first | refine K1 ?_) | (guard_target =~ All' _ _; first | (refine Y2 fun y he he' hy => ?_; (try dsimp only at he he' hy)) | (refine Y1 fun y he hy => ?_; (try with_reducible conv at he => (rhs; whnf)); (try dsimp only at he hy)) | (refine All'.mk ?_; intro y hy)) | refine F4 (fun h => ?_) fun h => ?_ | refine R1 ?_ | refine Q1 ?_ | fail)); all_goals (conv => whnf))
      refine AskL.mk ?_ ?_
      · rw [hsn, ← hW, e32, str_cat, List.append_assoc]
        (dsimp only [conj]; repeat' apply And.intro) <;> first | rfl | omega
      exact G1
    · rw [show letF 1 = 98 from rfl] at hcut
      have k0 : ((F.extract ((i : Nat) : Int).toNat (((i : Nat) : Int) + 1).toNat).toList == (⟨#[97]⟩ : ByteArray).toList) = false := by rw [hcut, str_beq]; decide
      have k1 : ((F.extract ((i : Nat) : Int).toNat (((i : Nat) : Int) + 1).toNat).toList == (⟨#[98]⟩ : ByteArray).toList) = true := by rw [hcut, str_beq]; decide
      have k2 : ((F.extract ((i : Nat) : Int).toNat (((i : Nat) : Int) + 1).toNat).toList == (⟨#[110]⟩ : ByteArray).toList) = false := by rw [hcut, str_beq]; decide
      have k3 : ((F.extract ((i : Nat) : Int).toNat (((i : Nat) : Int) + 1).toNat).toList == (⟨#[107]⟩ : ByteArray).toList) = false := by rw [hcut, str_beq]; decide
      have k4 : ((F.extract ((i : Nat) : Int).toNat (((i : Nat) : Int) + 1).toNat).toList == (⟨#[118]⟩ : ByteArray).toList) = false := by rw [hcut, str_beq]; decide
      have k5 : ((F.extract ((i : Nat) : Int).toNat (((i : Nat) : Int) + 1).toNat).toList == (⟨#[120]⟩ : ByteArray).toList) = false := by rw [hcut, str_beq]; decide
      have lm := And.intro k0 (And.intro k1 (And.intro k2 (And.intro k3 (And.intro k4 k5))))
      ((repeat' ((conv => whnf) <;> first | exact True.intro | (guard_target =~ Fork _ _ _; first | refine F1 ?_ | refine F2 ?_ | refine F3 (fun h => ?_) fun h => ?_) | (guard_target =~ Ar _ _ _; first | refine A1 ?_ | refine A2 ?_ | refine A3 ?_) | (guard_target =~ AskL _ _; first | refine L1 ?_) | (guard_target =~ Go.Eng.Ask _ _; first | refine K1 ?_) | (guard_target =~ All' _ _; first | (refine Y2 fun y he he' hy => ?_; (try dsimp only at he he' hy)) | (refine Y1 fun y he hy => ?_; (try with_reducible conv at he => (rhs; whnf)); (try dsimp only at he hy)) | (refine All'.mk ?_; intro y hy)) | refine F4 (fun h => ?_) fun h => ?_ | refine R1 ?_ | refine Q1 ?_ | fail)); all_goals (conv => whnf))
      have hW : wordL e 1 = decL e.2.2.1.toNat := rfl
      refine CallP.mk (C := digitsC) e.2.2.1 ?_
      have hd : (strOfNums (decL e.2.2.1.toNat)).size ≤ 130 := by rw [str_size, ← hW]; exact hwz
      ((repeat' ((conv => whnf) <;> first | exact True.intro | (guard_target =~ Fork _ _ _; first | refine F1 ?_ | refine F2 ?_ | refine F3 (fun h => ?_) fun h => ?_) | (guard_target =~ Ar _ _ _; first | refine A1 ?_ | refine A2 ?_ | refine A3 ?_) | (guard_target =~ AskL _ _; first | refine L1 ?_) | (guard_target =~ Go.Eng.Ask _ _; first | refine K1 ?_) | (guard_target =~ All' _ _; first | (refine Y2 fun y he he' hy => ?_; (try dsimp only at he he' hy)) | (refine Y1 fun y he hy => ?_; (try with_reducible conv at he => (rhs; whnf)); (try dsimp only at he hy)) | (refine All'.mk ?_; intro y hy)) | refine F4 (fun h => ?_) fun h => ?_ | refine R1 ?_ | refine Q1 ?_ | fail)); all_goals (conv => whnf))
      refine Some'.mk (i + 1) ?_
      ((repeat' ((conv => whnf) <;> first | exact True.intro | (guard_target =~ Fork _ _ _; first | refine F1 ?_ | refine F2 ?_ | refine F3 (fun h => ?_) fun h => ?_) | (guard_target =~ Ar _ _ _; first | refine A1 ?_ | refine A2 ?_ | refine A3 ?_) | (guard_target =~ Go.Eng.Ask _ _; first | refine K1 ?_) | (guard_target =~ All' _ _; first | (refine Y2 fun y he he' hy => ?_; (try dsimp only at he he' hy)) | (refine Y1 fun y he hy => ?_; (try with_reducible conv at he => (rhs; whnf)); (try dsimp only at he hy)) | (refine All'.mk ?_; intro y hy)) | refine F4 (fun h => ?_) fun h => ?_ | refine R1 ?_ | refine Q1 ?_ | fail)); all_goals (conv => whnf))
      refine AskL.mk ?_ ?_
      · rw [hsn, ← hW, e32, str_cat, List.append_assoc]
        (dsimp only [conj]; repeat' apply And.intro) <;> first | rfl | omega
      exact G1
    · rw [show letF 2 = 110 from rfl] at hcut
      have k0 : ((F.extract ((i : Nat) : Int).toNat (((i : Nat) : Int) + 1).toNat).toList == (⟨#[97]⟩ : ByteArray).toList) = false := by rw [hcut, str_beq]; decide
      have k1 : ((F.extract ((i : Nat) : Int).toNat (((i : Nat) : Int) + 1).toNat).toList == (⟨#[98]⟩ : ByteArray).toList) = false := by rw [hcut, str_beq]; decide
      have k2 : ((F.extract ((i : Nat) : Int).toNat (((i : Nat) : Int) + 1).toNat).toList == (⟨#[110]⟩ : ByteArray).toList) = true := by rw [hcut, str_beq]; decide
      have k3 : ((F.extract ((i : Nat) : Int).toNat (((i : Nat) : Int) + 1).toNat).toList == (⟨#[107]⟩ : ByteArray).toList) = false := by rw [hcut, str_beq]; decide
      have k4 : ((F.extract ((i : Nat) : Int).toNat (((i : Nat) : Int) + 1).toNat).toList == (⟨#[118]⟩ : ByteArray).toList) = false := by rw [hcut, str_beq]; decide
      have k5 : ((F.extract ((i : Nat) : Int).toNat (((i : Nat) : Int) + 1).toNat).toList == (⟨#[120]⟩ : ByteArray).toList) = false := by rw [hcut, str_beq]; decide
      have lm := And.intro k0 (And.intro k1 (And.intro k2 (And.intro k3 (And.intro k4 k5))))
      ((repeat' ((conv => whnf) <;> first | exact True.intro | (guard_target =~ Fork _ _ _; first | refine F1 ?_ | refine F2 ?_ | refine F3 (fun h => ?_) fun h => ?_) | (guard_target =~ Ar _ _ _; first | refine A1 ?_ | refine A2 ?_ | refine A3 ?_) | (guard_target =~ AskL _ _; first | refine L1 ?_) | (guard_target =~ Go.Eng.Ask _ _; first | refine K1 ?_) | (guard_target =~ All' _ _; first | (refine Y2 fun y he he' hy => ?_; (try dsimp only at he he' hy)) | (refine Y1 fun y he hy => ?_; (try with_reducible conv at he => (rhs; whnf)); (try dsimp only at he hy)) | (refine All'.mk ?_; intro y hy)) | refine F4 (fun h => ?_) fun h => ?_ | refine R1 ?_ | refine Q1 ?_ | fail)); all_goals (conv => whnf))
      have hW : wordL e 2 = decL e.2.2.2.1.toNat := rfl
      refine CallP.mk (C := digitsC) e.2.2.2.1 ?_
      have hd : (strOfNums (decL e.2.2.2.1.toNat)).size ≤ 130 := by rw [str_size, ← hW]; exact hwz
      ((repeat' ((conv => whnf) <;> first | exact True.intro | (guard_target =~ Fork _ _ _; first | refine F1 ?_ | refine F2 ?_ | refine F3 (fun h => ?_) fun h => ?_) | (guard_target =~ Ar _ _ _; first | refine A1 ?_ | refine A2 ?_ | refine A3 ?_) | (guard_target =~ AskL _ _; first | refine L1 ?_) | (guard_target =~ Go.Eng.Ask _ _; first | refine K1 ?_) | (guard_target =~ All' _ _; first | (refine Y2 fun y he he' hy => ?_; (try dsimp only at he he' hy)) | (refine Y1 fun y he hy => ?_; (try with_reducible conv at he => (rhs; whnf)); (try dsimp only at he hy)) | (refine All'.mk ?_; intro y hy)) | refine F4 (fun h => ?_) fun h => ?_ | refine R1 ?_ | refine Q1 ?_ | fail)); all_goals (conv => whnf))
      refine Some'.mk (i + 1) ?_
      ((repeat' ((conv => whnf) <;> first | exact True.intro | (guard_target =~ Fork _ _ _; first | refine F1 ?_ | refine F2 ?_ | refine F3 (fun h => ?_) fun h => ?_) | (guard_target =~ Ar _ _ _; first | refine A1 ?_ | refine A2 ?_ | refine A3 ?_) | (guard_target =~ Go.Eng.Ask _ _; first | refine K1 ?_) | (guard_target =~ All' _ _; first | (refine Y2 fun y he he' hy => ?_; (try dsimp only at he he' hy)) | (refine Y1 fun y he hy => ?_; (try with_reducible conv at he => (rhs; whnf)); (try dsimp only at he hy)) | (refine All'.mk ?_; intro y hy)) | refine F4 (fun h => ?_) fun h => ?_ | refine R1 ?_ | refine Q1 ?_ | fail)); all_goals (conv => whnf))
      refine AskL.mk ?_ ?_
      · rw [hsn, ← hW, e32, str_cat, List.append_assoc]
        (dsimp only [conj]; repeat' apply And.intro) <;> first | rfl | omega
      exact G1
    · rw [show letF 3 = 107 from rfl] at hcut
      have k0 : ((F.extract ((i : Nat) : Int).toNat (((i : Nat) : Int) + 1).toNat).toList == (⟨#[97]⟩ : ByteArray).toList) = false := by rw [hcut, str_beq]; decide
      have k1 : ((F.extract ((i : Nat) : Int).toNat (((i : Nat) : Int) + 1).toNat).toList == (⟨#[98]⟩ : ByteArray).toList) = false := by rw [hcut, str_beq]; decide
      have k2 : ((F.extract ((i : Nat) : Int).toNat (((i : Nat) : Int) + 1).toNat).toList == (⟨#[110]⟩ : ByteArray).toList) = false := by rw [hcut, str_beq]; decide
      have k3 : ((F.extract ((i : Nat) : Int).toNat (((i : Nat) : Int) + 1).toNat).toList == (⟨#[107]⟩ : ByteArray).toList) = true := by rw [hcut, str_beq]; decide
      have k4 : ((F.extract ((i : Nat) : Int).toNat (((i : Nat) : Int) + 1).toNat).toList == (⟨#[118]⟩ : ByteArray).toList) = false := by rw [hcut, str_beq]; decide
      have k5 : ((F.extract ((i : Nat) : Int).toNat (((i : Nat) : Int) + 1).toNat).toList == (⟨#[120]⟩ : ByteArray).toList) = false := by rw [hcut, str_beq]; decide
      have lm := And.intro k0 (And.intro k1 (And.intro k2 (And.intro k3 (And.intro k4 k5))))
      ((repeat' ((conv => whnf) <;> first | exact True.intro | (guard_target =~ Fork _ _ _; first | refine F1 ?_ | refine F2 ?_ | refine F3 (fun h => ?_) fun h => ?_) | (guard_target =~ Ar _ _ _; first | refine A1 ?_ | refine A2 ?_ | refine A3 ?_) | (guard_target =~ AskL _ _; first | refine L1 ?_) | (guard_target =~ Go.Eng.Ask _ _; first | refine K1 ?_) | (guard_target =~ All' _ _; first | (refine Y2 fun y he he' hy => ?_; (try dsimp only at he he' hy)) | (refine Y1 fun y he hy => ?_; (try with_reducible conv at he => (rhs; whnf)); (try dsimp only at he hy)) | (refine All'.mk ?_; intro y hy)) | refine F4 (fun h => ?_) fun h => ?_ | refine R1 ?_ | refine Q1 ?_ | fail)); all_goals (conv => whnf))
      have hW : wordL e 3 = hexP (bytesL e.2.2.2.2.1) := rfl
      refine CallP.mk (C := rhexC) e.2.2.2.2.1 ?_
      have hd : (hexS (bytesL e.2.2.2.2.1)).size ≤ 130 := by rw [hexS_eq, str_size, ← hW]; exact hwz
      ((repeat' ((conv => whnf) <;> first | exact True.intro | (guard_target =~ Fork _ _ _; first | refine F1 ?_ | refine F2 ?_ | refine F3 (fun h => ?_) fun h => ?_) | (guard_target =~ Ar _ _ _; first | refine A1 ?_ | refine A2 ?_ | refine A3 ?_) | (guard_target =~ AskL _ _; first | refine L1 ?_) | (guard_target =~ Go.Eng.Ask _ _; first | refine K1 ?_) | (guard_target =~ All' _ _; first | (refine Y2 fun y he he' hy => ?_; (try dsimp only at he he' hy)) | (refine Y1 fun y he hy => ?_; (try with_reducible conv at he => (rhs; whnf)); (try dsimp only at he hy)) | (refine All'.mk ?_; intro y hy)) | refine F4 (fun h => ?_) fun h => ?_ | refine R1 ?_ | refine Q1 ?_ | fail)); all_goals (conv => whnf))
      refine Some'.mk (i + 1) ?_
      ((repeat' ((conv => whnf) <;> first | exact True.intro | (guard_target =~ Fork _ _ _; first | refine F1 ?_ | refine F2 ?_ | refine F3 (fun h => ?_) fun h => ?_) | (guard_target =~ Ar _ _ _; first | refine A1 ?_ | refine A2 ?_ | refine A3 ?_) | (guard_target =~ Go.Eng.Ask _ _; first | refine K1 ?_) | (guard_target =~ All' _ _; first | (refine Y2 fun y he he' hy => ?_; (try dsimp only at he he' hy)) | (refine Y1 fun y he hy => ?_; (try with_reducible conv at he => (rhs; whnf)); (try dsimp only at he hy)) | (refine All'.mk ?_; intro y hy)) | refine F4 (fun h => ?_) fun h => ?_ | refine R1 ?_ | refine Q1 ?_ | fail)); all_goals (conv => whnf))
      refine AskL.mk ?_ ?_
      · rw [hsn, hexS_eq, ← hW, e32, str_cat, List.append_assoc]
        (dsimp only [conj]; repeat' apply And.intro) <;> first | rfl | omega
      exact G1
    · rw [show letF 4 = 118 from rfl] at hcut
      have k0 : ((F.extract ((i : Nat) : Int).toNat (((i : Nat) : Int) + 1).toNat).toList == (⟨#[97]⟩ : ByteArray).toList) = false := by rw [hcut, str_beq]; decide
      have k1 : ((F.extract ((i : Nat) : Int).toNat (((i : Nat) : Int) + 1).toNat).toList == (⟨#[98]⟩ : ByteArray).toList) = false := by rw [hcut, str_beq]; decide
      have k2 : ((F.extract ((i : Nat) : Int).toNat (((i : Nat) : Int) + 1).toNat).toList == (⟨#[110]⟩ : ByteArray).toList) = false := by rw [hcut, str_beq]; decide
      have k3 : ((F.extract ((i : Nat) : Int).toNat (((i : Nat) : Int) + 1).toNat).toList == (⟨#[107]⟩ : ByteArray).toList) = false := by rw [hcut, str_beq]; decide
      have k4 : ((F.extract ((i : Nat) : Int).toNat (((i : Nat) : Int) + 1).toNat).toList == (⟨#[118]⟩ : ByteArray).toList) = true := by rw [hcut, str_beq]; decide
      have k5 : ((F.extract ((i : Nat) : Int).toNat (((i : Nat) : Int) + 1).toNat).toList == (⟨#[120]⟩ : ByteArray).toList) = false := by rw [hcut, str_beq]; decide
      have lm := And.intro k0 (And.intro k1 (And.intro k2 (And.intro k3 (And.intro k4 k5))))
      ((repeat' ((conv => whnf) <;> first | exact True.intro | (guard_target =~ Fork _ _ _; first | refine F1 ?_ | refine F2 ?_ | refine F3 (fun h => ?_) fun h => ?_) | (guard_target =~ Ar _ _ _; first | refine A1 ?_ | refine A2 ?_ | refine A3 ?_) | (guard_target =~ AskL _ _; first | refine L1 ?_) | (guard_target =~ Go.Eng.Ask _ _; first | refine K1 ?_) | (guard_target =~ All' _ _; first | (refine Y2 fun y he he' hy => ?_; (try dsimp only at he he' hy)) | (refine Y1 fun y he hy => ?_; (try with_reducible conv at he => (rhs; whnf)); (try dsimp only at he hy)) | (refine All'.mk ?_; intro y hy)) | refine F4 (fun h => ?_) fun h => ?_ | refine R1 ?_ | refine Q1 ?_ | fail)); all_goals (conv => whnf))
      have hW : wordL e 4 = hexP e.2.2.2.2.2.1 := rfl
      refine CallP.mk (C := rhexC) (strOfNums e.2.2.2.2.2.1) ?_
      have hbs := bytes_str hok.2.1
      have hd : (hexS (bytesL (strOfNums e.2.2.2.2.2.1))).size ≤ 130 := by rw [hbs, hexS_eq, str_size, ← hW]; exact hwz
      have hd2 := str_size e.2.2.2.2.2.1
      ((repeat' ((conv => whnf) <;> first | exact True.intro | (guard_target =~ Fork _ _ _; first | refine F1 ?_ | refine F2 ?_ | refine F3 (fun h => ?_) fun h => ?_) | (guard_target =~ Ar _ _ _; first | refine A1 ?_ | refine A2 ?_ | refine A3 ?_) | (guard_target =~ AskL _ _; first | refine L1 ?_) | (guard_target =~ Go.Eng.Ask _ _; first | refine K1 ?_) | (guard_target =~ All' _ _; first | (refine Y2 fun y he he' hy => ?_; (try dsimp only at he he' hy)) | (refine Y1 fun y he hy => ?_; (try with_reducible conv at he => (rhs; whnf)); (try dsimp only at he hy)) | (refine All'.mk ?_; intro y hy)) | refine F4 (fun h => ?_) fun h => ?_ | refine R1 ?_ | refine Q1 ?_ | fail)); all_goals (conv => whnf))
      refine Some'.mk (i + 1) ?_
      ((repeat' ((conv => whnf) <;> first | exact True.intro | (guard_target =~ Fork _ _ _; first | refine F1 ?_ | refine F2 ?_ | refine F3 (fun h => ?_) fun h => ?_) | (guard_target =~ Ar _ _ _; first | refine A1 ?_ | refine A2 ?_ | refine A3 ?_) | (guard_target =~ Go.Eng.Ask _ _; first | refine K1 ?_) | (guard_target =~ All' _ _; first | (refine Y2 fun y he he' hy => ?_; (try dsimp only at he he' hy)) | (refine Y1 fun y he hy => ?_; (try with_reducible conv at he => (rhs; whnf)); (try dsimp only at he hy)) | (refine All'.mk ?_; intro y hy)) | refine F4 (fun h => ?_) fun h => ?_ | refine R1 ?_ | refine Q1 ?_ | fail)); all_goals (conv => whnf))
      refine AskL.mk ?_ ?_
      · rw [hsn, hbs, hexS_eq, ← hW, e32, str_cat, List.append_assoc]
        (dsimp only [conj]; repeat' apply And.intro) <;> first | rfl | omega
      exact G1
    · rw [show letF 5 = 120 from rfl] at hcut
      have k0 : ((F.extract ((i : Nat) : Int).toNat (((i : Nat) : Int) + 1).toNat).toList == (⟨#[97]⟩ : ByteArray).toList) = false := by rw [hcut, str_beq]; decide
      have k1 : ((F.extract ((i : Nat) : Int).toNat (((i : Nat) : Int) + 1).toNat).toList == (⟨#[98]⟩ : ByteArray).toList) = false := by rw [hcut, str_beq]; decide
      have k2 : ((F.extract ((i : Nat) : Int).toNat (((i : Nat) : Int) + 1).toNat).toList == (⟨#[110]⟩ : ByteArray).toList) = false := by rw [hcut, str_beq]; decide
      have k3 : ((F.extract ((i : Nat) : Int).toNat (((i : Nat) : Int) + 1).toNat).toList == (⟨#[107]⟩ : ByteArray).toList) = false := by rw [hcut, str_beq]; decide
      have k4 : ((F.extract ((i : Nat) : Int).toNat (((i : Nat) : Int) + 1).toNat).toList == (⟨#[118]⟩ : ByteArray).toList) = false := by rw [hcut, str_beq]; decide
      have k5 : ((F.extract ((i : Nat) : Int).toNat (((i : Nat) : Int) + 1).toNat).toList == (⟨#[120]⟩ : ByteArray).toList) = true := by rw [hcut, str_beq]; decide
      have lm := And.intro k0 (And.intro k1 (And.intro k2 (And.intro k3 (And.intro k4 k5))))
      ((repeat' ((conv => whnf) <;> first | exact True.intro | (guard_target =~ Fork _ _ _; first | refine F1 ?_ | refine F2 ?_ | refine F3 (fun h => ?_) fun h => ?_) | (guard_target =~ Ar _ _ _; first | refine A1 ?_ | refine A2 ?_ | refine A3 ?_) | (guard_target =~ AskL _ _; first | refine L1 ?_) | (guard_target =~ Go.Eng.Ask _ _; first | refine K1 ?_) | (guard_target =~ All' _ _; first | (refine Y2 fun y he he' hy => ?_; (try dsimp only at he he' hy)) | (refine Y1 fun y he hy => ?_; (try with_reducible conv at he => (rhs; whnf)); (try dsimp only at he hy)) | (refine All'.mk ?_; intro y hy)) | refine F4 (fun h => ?_) fun h => ?_ | refine R1 ?_ | refine Q1 ?_ | fail)); all_goals (conv => whnf))
      have hW : wordL e 5 = hexP [e.2.2.2.2.2.2] := rfl
      refine CallP.mk (C := rHexC) (strOfNums [e.2.2.2.2.2.2]) ?_
      have hbs := bytes_str (okB_cons hok.2.2.1 (fun _ h => nomatch h) : okB [e.2.2.2.2.2.2])
      have hd : (strOfNums (hexL (bytesL (strOfNums [e.2.2.2.2.2.2])))).size ≤ 130 := by rw [hbs, str_size]; show (hexP [e.2.2.2.2.2.2]).length ≤ _; rw [← hW]; exact hwz
      have hd2 := str_size [e.2.2.2.2.2.2]
      simp only [List.length_singleton] at hd2
      ((repeat' ((conv => whnf) <;> first | exact True.intro | (guard_target =~ Fork _ _ _; first | refine F1 ?_ | refine F2 ?_ | refine F3 (fun h => ?_) fun h => ?_) | (guard_target =~ Ar _ _ _; first | refine A1 ?_ | refine A2 ?_ | refine A3 ?_) | (guard_target =~ AskL _ _; first | refine L1 ?_) | (guard_target =~ Go.Eng.Ask _ _; first | refine K1 ?_) | (guard_target =~ All' _ _; first | (refine Y2 fun y he he' hy => ?_; (try dsimp only at he he' hy)) | (refine Y1 fun y he hy => ?_; (try with_reducible conv at he => (rhs; whnf)); (try dsimp only at he hy)) | (refine All'.mk ?_; intro y hy)) | refine F4 (fun h => ?_) fun h => ?_ | refine R1 ?_ | refine Q1 ?_ | fail)); all_goals (conv => whnf))
      refine Some'.mk (i + 1) ?_
      ((repeat' ((conv => whnf) <;> first | exact True.intro | (guard_target =~ Fork _ _ _; first | refine F1 ?_ | refine F2 ?_ | refine F3 (fun h => ?_) fun h => ?_) | (guard_target =~ Ar _ _ _; first | refine A1 ?_ | refine A2 ?_ | refine A3 ?_) | (guard_target =~ Go.Eng.Ask _ _; first | refine K1 ?_) | (guard_target =~ All' _ _; first | (refine Y2 fun y he he' hy => ?_; (try dsimp only at he he' hy)) | (refine Y1 fun y he hy => ?_; (try with_reducible conv at he => (rhs; whnf)); (try dsimp only at he hy)) | (refine All'.mk ?_; intro y hy)) | refine F4 (fun h => ?_) fun h => ?_ | refine R1 ?_ | refine Q1 ?_ | fail)); all_goals (conv => whnf))
      refine AskL.mk ?_ ?_
      · rw [hsn, hbs, show hexL [e.2.2.2.2.2.2] = wordL e 5 from hW.symm, e32, str_cat, List.append_assoc]
        (dsimp only [conj]; repeat' apply And.intro) <;> first | rfl | omega
      exact G1
end Go.Proofs.YtghejeecanohoaaDoor

/-! Lines and words, in plain terms: what is told is read. -/
set_option linter.unusedVariables false
set_option linter.unusedSimpArgs false
set_option maxRecDepth 100000
namespace Go.Proofs.YtghejeecanohoaaDoor
open Go.Eng

/-! ### Words -/
def joinW (ts : List (List Int)) (s : List Int) : List Int := ts.foldl (fun s t => s ++ 32 :: t) s
theorem joinW_app : ∀ (ts : List (List Int)) (a s : List Int), joinW ts (a ++ s) = a ++ joinW ts s
  | [], a, s => rfl
  | t :: ts, a, s => by
    show joinW ts ((a ++ s) ++ 32 :: t) = a ++ joinW ts (s ++ 32 :: t)
    rw [List.append_assoc, joinW_app ts]
theorem joinW_cons (t : List Int) (ts : List (List Int)) (s : List Int) : joinW (t :: ts) s = s ++ 32 :: joinW ts t := by
  show joinW ts (s ++ 32 :: t) = _
  rw [joinW_app, show (32 :: t : List Int) = [32] ++ t from rfl, joinW_app]; rfl
theorem split_join : ∀ (l : List Int) (a : List Int) (ts : List (List Int)), splitL 32 l = a :: ts → l = joinW ts a
  | [], a, ts, h => by
    simp only [splitL, List.cons.injEq] at h
    obtain ⟨rfl, rfl⟩ := h
    rfl
  | b :: l, a, ts, h => by
    by_cases hb : b = 32
    · rw [splitL, if_pos hb] at h
      simp only [List.cons.injEq] at h
      obtain ⟨rfl, rfl⟩ := h
      cases hl : splitL 32 l with
      | nil => exact absurd hl (splitL_ne 32 l)
      | cons v vs =>
        rw [joinW_cons, ← split_join l v vs hl, hb]; rfl
    · cases hl : splitL 32 l with
      | nil => exact absurd hl (splitL_ne 32 l)
      | cons v vs =>
        rw [splitL_cons_ne hb hl] at h
        simp only [List.cons.injEq] at h
        obtain ⟨rfl, rfl⟩ := h
        have := split_join l v vs hl
        rw [show (b :: v : List Int) = [b] ++ v from rfl, joinW_app, ← this]; rfl
theorem splitL_app {c : Int} : ∀ (a l : List Int), c ∉ a → splitL c (a ++ c :: l) = a :: splitL c l
  | [], l, _ => by simp [splitL]
  | b :: a, l, h => by
    have h1 : ¬ b = c := fun e => h (by rw [e]; exact List.mem_cons_self ..)
    rw [List.cons_append, splitL_cons_ne h1 (splitL_app a l (fun hc => h (List.mem_cons_of_mem _ hc)))]
theorem join_split : ∀ (ts : List (List Int)) (a : List Int), 32 ∉ a → (∀ t, t ∈ ts → 32 ∉ t) → splitL 32 (joinW ts a) = a :: ts
  | [], a, ha, _ => splitL_free ha
  | t :: ts, a, ha, ht => by
    rw [joinW_cons, splitL_app _ _ ha, join_split ts t (ht t (List.mem_cons_self ..)) (fun u hu => ht u (List.mem_cons_of_mem _ hu))]
theorem line_join (e : Ev) : ∀ (ws : List Int) (s : List Int), lineFrom e ws s = joinW (ws.map (wordL e)) s
  | [], _ => rfl
  | w :: ws, s => line_join e ws _

/-! ### Numbers -/
theorem decL_isD : ∀ n : Nat, (decL n).all isD = true := fun n => by
  induction n using Nat.strongRecOn with
  | _ n ih =>
    by_cases h : n < 10
    · rw [decL_small h]; simp only [List.all_cons, List.all_nil, Bool.and_true, isD]; exact decide_eq_true (by omega)
    · rw [decL_great h, List.all_append, ih (n / 10) (by omega)]
      simp only [List.all_cons, List.all_nil, Bool.and_true, Bool.true_and, isD]; exact decide_eq_true (by omega)
theorem decL_ne (n : Nat) : decL n ≠ [] := by
  by_cases h : n < 10
  · rw [decL_small h]; simp
  · rw [decL_great h]; simp
theorem numV_dec : ∀ n : Nat, numV (decL n) = n := fun n => by
  induction n using Nat.strongRecOn with
  | _ n ih =>
    by_cases h : n < 10
    · rw [decL_small h]; simp [numV]; omega
    · rw [decL_great h, numV_snoc, ih (n / 10) (by omega)]; omega
theorem decL_head : ∀ n : Nat, 0 < n → (decL n)[0]? ≠ some 48 := fun n => by
  induction n using Nat.strongRecOn with
  | _ n ih =>
    intro hp
    by_cases h : n < 10
    · rw [decL_small h]; simp; omega
    · have h1 := ih (n / 10) (by omega) (by omega)
      have h2 := List.length_pos_iff.2 (decL_ne (n / 10))
      rw [decL_great h, List.getElem?_append_left h2]
      exact h1
theorem numOk_dec {n : Nat} (h : n ≤ 1048576) : numOk (decL n) = true := by
  unfold numOk
  rw [decL_isD, Bool.and_true]
  have h1 := List.length_pos_iff.2 (decL_ne n)
  have h2 := decL_len 7 n (by omega)
  refine decide_eq_true ⟨by omega, by omega, fun hh => ?_⟩
  rcases Nat.eq_zero_or_pos n with rfl | hp
  · rw [decL_small (by omega)] at hh; simp at hh
  · exact decL_head n hp hh.2
theorem dec_num : ∀ (k : Nat) (t : List Int), t.length = k + 1 → t.all isD = true → (1 < t.length → t[0]? ≠ some 48) → 0 ≤ numV t ∧ (t[0]? ≠ some 48 → 0 < numV t) ∧ decL (numV t).toNat = t
  | 0, [c], _, ha, _ => by
    have hc : 48 ≤ c ∧ c ≤ 57 := by simpa [isD] using ha
    have e : numV [c] = c - 48 := by simp [numV]
    rw [e, decL_small (by omega)]
    refine ⟨by omega, fun h => ?_, ?_⟩
    · have : ¬ c = 48 := fun e => h (by rw [e]; rfl)
      omega
    · congr 1; omega
  | k + 1, t, hl, ha, hz => by
    have hne : t ≠ [] := fun e => by rw [e] at hl; simp at hl
    obtain ⟨u, c, rfl⟩ : ∃ u c, t = u ++ [c] := ⟨t.dropLast, t.getLast hne, (List.dropLast_concat_getLast hne).symm⟩
    rw [List.length_append, List.length_singleton] at hl
    rw [List.all_append, Bool.and_eq_true] at ha
    have hc : 48 ≤ c ∧ c ≤ 57 := by simpa [isD] using ha.2
    have h0 : (u ++ [c])[0]? = u[0]? := List.getElem?_append_left (by omega)
    have hz' : u[0]? ≠ some 48 := by rw [← h0]; exact hz (by rw [List.length_append, List.length_singleton]; omega)
    obtain ⟨i1, i2, i3⟩ := dec_num k u (by omega) ha.1 (fun _ => hz')
    have hp := i2 hz'
    rw [numV_snoc]
    refine ⟨by omega, fun _ => by omega, ?_⟩
    have e1 : (numV u * 10 + (c - 48)).toNat / 10 = (numV u).toNat := by omega
    rw [decL_great (by omega), e1, i3]
    congr 2; omega
  | 0, [], h, _, _ => by simp at h
  | 0, _ :: _ :: _, h, _, _ => by simp at h
theorem num_canon {t : List Int} (h : numOk t = true) : 0 ≤ numV t ∧ decL (numV t).toNat = t := by
  unfold numOk at h
  rw [Bool.and_eq_true] at h
  obtain ⟨h1, h2, h3⟩ := of_decide_eq_true h.1
  obtain ⟨a, _, b⟩ := dec_num (t.length - 1) t (by omega) h.2 (fun hl e => h3 ⟨hl, e⟩)
  exact ⟨a, b⟩

theorem parse_fold : ∀ (l : List UInt8) (acc k : Nat), acc < 10 ^ k → l.length + k ≤ 18 → (toI l).all isD = true → ∃ u : Nat, Lib.parseUint10 acc l = .ok u ∧ (u : Int) = (toI l).foldl (fun n c => n * 10 + (c - 48)) (acc : Int) ∧ u < 10 ^ (l.length + k)
  | [], acc, k, h, _, _ => ⟨acc, rfl, rfl, by simpa using h⟩
  | c :: l, acc, k, h, hl, ha => by
    simp only [toI, List.map_cons, List.all_cons, Bool.and_eq_true] at ha
    have hc : 48 ≤ c.toNat ∧ c.toNat ≤ 57 := by
      have := ha.1
      simp only [isD, decide_eq_true_eq] at this
      omega
    have hl' : l.length + (k + 1) ≤ 18 := by simp only [List.length_cons] at hl; omega
    have hp : 10 ^ k ≤ 10 ^ 17 := Nat.pow_le_pow_right (by decide) (by omega)
    have e17 : (10 : Nat) ^ 17 = 100000000000000000 := by decide
    obtain ⟨u, h1, h2, h3⟩ := parse_fold l (acc * 10 + (c.toNat - 48)) (k + 1) (by rw [Nat.pow_succ]; omega) hl' ha.2
    refine ⟨u, ?_, ?_, ?_⟩
    · rw [Lib.parseUint10, if_pos hc, if_neg (by omega), if_neg (by omega)]; exact h1
    · rw [h2]
      show _ = (toI l).foldl _ ((acc : Int) * 10 + ((c.toNat : Int) - 48))
      congr 1; omega
    · rw [List.length_cons, show l.length + 1 + k = l.length + (k + 1) by omega]; exact h3
theorem atoi_num {s : ByteArray} (h : (bytesL s).all isD = true) (h0 : 1 ≤ s.size) (h1 : s.size ≤ 18) : atoiN s = numV (bytesL s) := by
  have hsz : s.data.toList.length = s.size := by simp
  obtain ⟨u, p1, p2, p3⟩ := parse_fold s.data.toList 0 0 (by decide) (by omega) h
  have hu : u < 9223372036854775808 := by
    have : (10 : Nat) ^ (s.data.toList.length + 0) ≤ 10 ^ 18 := Nat.pow_le_pow_right (by decide) (by omega)
    have e18 : (10 : Nat) ^ 18 = 1000000000000000000 := by decide
    omega
  cases hl : s.data.toList with
  | nil => rw [hl] at hsz; simp at hsz; omega
  | cons c r =>
    have hc : isD (c.toNat : Int) = true := by
      have : (toI s.data.toList).all isD = true := h
      rw [hl] at this
      simp only [toI, List.map_cons, List.all_cons, Bool.and_eq_true] at this
      exact this.1
    simp only [isD, decide_eq_true_eq] at hc
    have e : Lib.atoiAll s.data.toList = .ok (u : Int) := by
      rw [hl, Lib.atoiAll_plain c r (by omega) (by omega), ← hl]
      have hm : Lib.parseMag s.data.toList = .ok u := by
        unfold Lib.parseMag
        rw [if_neg (by rw [hl]; simp)]; exact p1
      rw [hm]
      simp only [Lib.signless]
      rw [if_neg (by omega)]
    unfold atoiN
    rw [e]
    exact p2
theorem atoi_dec {n : Int} (h : 0 ≤ n ∧ n ≤ 1048576) : atoiN (strOfNums (decL n.toNat)) = n := by
  have hd := decL_isD n.toNat
  have hb : okB (decL n.toNat) := fun c hc => by
    have := List.all_eq_true.1 hd c hc
    simp only [isD, decide_eq_true_eq] at this
    omega
  have h1 := List.length_pos_iff.2 (decL_ne n.toNat)
  have h2 := decL_len 7 n.toNat (by omega)
  rw [atoi_num (by rw [bytes_str hb]; exact hd) (by rw [str_size]; omega) (by rw [str_size]; omega), bytes_str hb, numV_dec]
  omega
end Go.Proofs.YtghejeecanohoaaDoor

/-! What a line's words say; what is told is read. -/
set_option linter.unusedVariables false
set_option linter.unusedSimpArgs false
set_option maxRecDepth 100000
set_option maxHeartbeats 4000000
namespace Go.Proofs.YtghejeecanohoaaDoor
open Go.Eng

/-! ### Digits of bytes -/
theorem dig_u : ∀ c : Int, 0 ≤ c ∧ c < 16 → uI (digI c) = c ∧ isH (digI c) = true ∧ digI c ≠ 32 ∧ (0 ≤ digI c ∧ digI c < 256) := fun c h => by
  obtain ⟨n, rfl⟩ := Int.eq_ofNat_of_zero_le h.1
  have hn : n < 16 := by omega
  have key : ∀ m : Fin 16, uI (digI ((m : Nat) : Int)) = ((m : Nat) : Int) ∧ isH (digI ((m : Nat) : Int)) = true ∧ digI ((m : Nat) : Int) ≠ 32 ∧ (0 ≤ digI ((m : Nat) : Int) ∧ digI ((m : Nat) : Int) < 256) := by decide
  exact key ⟨n, hn⟩
theorem unhex_hex : ∀ {l : List Int}, okB l → unhexL (hexL l) = l
  | [], _ => rfl
  | c :: l, h => by
    have hc := h c (List.mem_cons_self ..)
    have h1 := dig_u (c / 16) (by omega)
    have h2 := dig_u (c % 16) (by omega)
    simp only [hexL, unhexL, unhex_hex (okB_tail h), h1.1, h2.1]
    congr 1; omega
theorem hex_isH : ∀ {l : List Int}, okB l → (hexL l).all isH = true
  | [], _ => rfl
  | c :: l, h => by
    have hc := h c (List.mem_cons_self ..)
    have h1 := dig_u (c / 16) (by omega)
    have h2 := dig_u (c % 16) (by omega)
    simp only [hexL, List.all_cons, hex_isH (okB_tail h), h1.2.1, h2.2.1, Bool.and_self]
theorem hex_ok {l : List Int} (h : okB l) : unhexOk (hexL l) = true := by
  unfold unhexOk
  rw [hex_isH h, Bool.and_true]
  exact decide_eq_true (by rw [hexL_len]; omega)
theorem hex_no32 : ∀ {l : List Int}, okB l → 32 ∉ hexL l
  | [], _ => by simp [hexL]
  | c :: l, h => by
    have hc := h c (List.mem_cons_self ..)
    have h1 := dig_u (c / 16) (by omega)
    have h2 := dig_u (c % 16) (by omega)
    simp only [hexL, List.mem_cons, not_or]
    exact ⟨fun e => h1.2.2.1 e.symm, fun e => h2.2.2.1 e.symm, hex_no32 (okB_tail h)⟩
theorem u_dig : ∀ c : Int, isH c = true → digI (uI c) = c := fun c h => by
  rcases isH_cases c with ⟨_, ⟨h1, h2, h3⟩ | ⟨h1, h2, h3⟩⟩ | ⟨h1, _⟩
  · rw [h3, digI_lt (by omega)]; omega
  · rw [h3, digI_ge (by omega)]; omega
  · rw [h1] at h; cases h
theorem hex_unhex : ∀ (l : List Int), l.length % 2 = 0 → l.all isH = true → hexL (unhexL l) = l
  | [], _, _ => rfl
  | [_], h, _ => by simp at h
  | a :: b :: l, h, ha => by
    simp only [List.all_cons, Bool.and_eq_true] at ha
    have ra := uI_rng a
    have rb := uI_rng b
    have e1 : (uI a * 16 + uI b) / 16 = uI a := by omega
    have e2 : (uI a * 16 + uI b) % 16 = uI b := by omega
    simp only [unhexL, hexL, e1, e2, u_dig a ha.1, u_dig b ha.2.1, hex_unhex l (by simp at h; omega) ha.2.2]
theorem unhexOk_iff {l : List Int} : unhexOk l = true ↔ l.length % 2 = 0 ∧ l.all isH = true := by simp [unhexOk]
theorem hex_back {l : List Int} (h : unhexOk l = true) : hexL (unhexL l) = l := hex_unhex l (unhexOk_iff.1 h).1 (unhexOk_iff.1 h).2
theorem unhex_hexP {l : List Int} (h : okB l) : unhexL (hexP l) = l := by
  unfold hexP
  split
  · rename_i e; rw [e]; rfl
  · exact unhex_hex h
theorem hexP_no32 {l : List Int} (h : okB l) : 32 ∉ hexP l := by
  unfold hexP
  split
  · decide
  · exact hex_no32 h
theorem dec_no32 (n : Nat) : 32 ∉ decL n := fun h => by
  have := List.all_eq_true.1 (decL_isD n) 32 h
  simp [isD] at this
theorem word_no32 {e : Ev} (h : okEv e) (w : Int) : 32 ∉ wordL e w := by
  unfold wordL
  repeat' split
  · exact dec_no32 _
  · exact dec_no32 _
  · exact dec_no32 _
  · exact hexP_no32 (bytesL_ok _)
  · exact hexP_no32 h.2.1
  · exact hexP_no32 (okB_cons h.2.2.1 (fun _ h => nomatch h))
theorem name_no32 (k : Int) : 32 ∉ bytesL (nameF k).1 := by
  rcases kinds k with rfl | rfl | rfl | rfl | rfl | rfl | rfl | rfl | rfl | rfl | rfl | hk
  case inr.inr.inr.inr.inr.inr.inr.inr.inr.inr.inr => rw [nameF_none hk]; decide
  all_goals decide
/-- A line, cut. -/
theorem split_line {e : Ev} (h : okEv e) : splitL 32 (lineL e) = bytesL (nameF e.1).1 :: (nameF e.1).2.map (wordL e) := by
  unfold lineL
  rw [line_join]
  exact join_split _ _ (name_no32 _) (fun t ht => by
    obtain ⟨w, _, rfl⟩ := List.mem_map.1 ht
    exact word_no32 h w)

/-! ### Words read, by the program -/
def atoiI (t : List Int) : Int := atoiN (strOfNums t)
def srcA (e : Ev) (t : List Int) : Ev := (0, atoiI t, atoiI t, atoiI t, strOfNums (unhexL t), unhexL t, (unhexL t).getLastD e.2.2.2.2.2.2)
def stepA (e : Ev) (w : Int) (t : List Int) : Ev := setW (srcA e t) e w
def foldA (l : List (Int × List Int)) (e : Ev) : Ev := l.foldl (fun e p => stepA e p.1 p.2) e
theorem foldA_snoc (l : List (Int × List Int)) (p : Int × List Int) (e : Ev) : foldA (l ++ [p]) e = stepA (foldA l e) p.1 p.2 := by simp [foldA]
/-! ### And by the reference -/
def hexR (t : List Int) : List Int := if t = [46] then [] else if unhexOk t then unhexL t else []
def hexOkR (t : List Int) : Bool := if t = [46] then true else if t = [] then false else unhexOk t
def numR (t : List Int) : Int := if numOk t then numV t else 0
def srcR (t : List Int) : Ev := (0, numR t, numR t, numR t, strOfNums (hexR t), hexR t, (hexR t).headD 0)
def okR (w : Int) (t : List Int) : Bool := if w = 0 ∨ w = 1 ∨ w = 2 then numOk t else if w = 3 ∨ w = 4 then hexOkR t else hexOkR t && decide ((hexR t).length = 1)
def stepR (p : Ev × Bool) (w : Int) (t : List Int) : Ev × Bool := (if w = 5 ∧ (p.2 && okR w t) = false then p.1 else setW (srcR t) p.1 w, p.2 && okR w t)
def foldR (l : List (Int × List Int)) (p : Ev × Bool) : Ev × Bool := l.foldl (fun p q => stepR p q.1 q.2) p
theorem foldR_snoc (l : List (Int × List Int)) (q : Int × List Int) (p : Ev × Bool) : foldR (l ++ [q]) p = stepR (foldR l p) q.1 q.2 := by simp [foldR]

theorem unhex_ne46 {t : List Int} (h : okB t) (hne : t ≠ []) : hexL t ≠ [46] := fun e => by
  have := congrArg List.length e
  rw [hexL_len] at this
  simp only [List.length_singleton] at this
  omega
theorem hexR_hexP {l : List Int} (h : okB l) : hexR (hexP l) = l ∧ hexOkR (hexP l) = true := by
  unfold hexP
  by_cases e : l = []
  · subst e; simp [hexR, hexOkR]
  · have h1 := unhex_ne46 h e
    have h2 : hexL l ≠ [] := fun e2 => by
      have := congrArg List.length e2
      rw [hexL_len] at this
      have := List.length_pos_iff.2 e
      simp only [List.length_nil] at *
      omega
    simp only [if_neg e, hexR, hexOkR, if_neg h1, if_neg h2, hex_ok h, if_true, unhex_hex h, and_self]
theorem numR_dec {n : Int} (h : 0 ≤ n ∧ n ≤ 1048576) : numR (decL n.toNat) = n ∧ numOk (decL n.toNat) = true := by
  have := numOk_dec (n := n.toNat) (by omega)
  exact ⟨by unfold numR; rw [if_pos this, numV_dec]; omega, this⟩

/-- The fields that a word reads, where the line is an event's. -/
theorem read_word {e : Ev} (ho : okEv e) (hr : rightP e) (e' : Ev) (w : Int) : stepA e' w (wordL e w) = setW e e' w := by
  obtain ⟨r1, r2, r3, r4, r5, r6, r7⟩ := hr
  unfold okN at r2 r3 r4
  unfold stepA setW srcA wordL
  by_cases h0 : w = 0
  · simp only [if_pos h0, atoiI, atoi_dec r2]
  · by_cases h1 : w = 1
    · simp only [if_neg h0, if_pos h1, atoiI, atoi_dec r3]
    · by_cases h2 : w = 2
      · simp only [if_neg h0, if_neg h1, if_pos h2, atoiI, atoi_dec r4]
      · by_cases h3 : w = 3
        · simp only [if_neg h0, if_neg h1, if_neg h2, if_pos h3, unhex_hexP (bytesL_ok _), str_bytesL]
        · by_cases h4 : w = 4
          · simp only [if_neg h0, if_neg h1, if_neg h2, if_neg h3, if_pos h4, unhex_hexP ho.2.1]
          · simp only [if_neg h0, if_neg h1, if_neg h2, if_neg h3, if_neg h4, unhex_hexP (okB_cons ho.2.2.1 (fun _ h => nomatch h) : okB [e.2.2.2.2.2.2])]
            rfl
theorem read_wordR {e : Ev} (ho : okEv e) (hr : rightP e) (e' : Ev) (w : Int) : stepR (e', true) w (wordL e w) = (setW e e' w, true) := by
  obtain ⟨r1, r2, r3, r4, r5, r6, r7⟩ := hr
  unfold okN at r2 r3 r4
  unfold stepR setW srcR wordL okR
  by_cases h0 : w = 0
  · subst h0; simp [numR_dec r2]
  · by_cases h1 : w = 1
    · subst h1; simp [numR_dec r3]
    · by_cases h2 : w = 2
      · subst h2; simp [numR_dec r4]
      · by_cases h3 : w = 3
        · subst h3; simp [hexR_hexP (bytesL_ok e.2.2.2.2.1), str_bytesL]
        · by_cases h4 : w = 4
          · subst h4; simp [hexR_hexP ho.2.1]
          · have := hexR_hexP (okB_cons ho.2.2.1 (fun _ h => nomatch h) : okB [e.2.2.2.2.2.2])
            simp [h0, h1, h2, h3, h4, this]
theorem readA {e : Ev} (ho : okEv e) (hr : rightP e) : ∀ (ws : List Int) (e' : Ev), foldA (ws.zip (ws.map (wordL e))) e' = setAllW e ws e'
  | [], _ => rfl
  | w :: ws, e' => by
    show foldA (ws.zip (ws.map (wordL e))) (stepA e' w (wordL e w)) = setAllW e ws (setW e e' w)
    rw [read_word ho hr, readA ho hr ws]
theorem readR {e : Ev} (ho : okEv e) (hr : rightP e) : ∀ (ws : List Int) (e' : Ev), foldR (ws.zip (ws.map (wordL e))) (e', true) = (setAllW e ws e', true)
  | [], _ => rfl
  | w :: ws, e' => by
    show foldR (ws.zip (ws.map (wordL e))) (stepR (e', true) w (wordL e w)) = (setAllW e ws (setW e e' w), true)
    rw [read_wordR ho hr, readR ho hr ws]
/-- A line that is an event's reads as that event. -/
theorem lineA {e : Ev} (ho : okEv e) (hr : rightP e) : foldA ((nameF e.1).2.zip ((nameF e.1).2.map (wordL e))) (evZ e.1) = e := by
  rw [readA ho hr]; exact hr.2.2.2.2.2.2
theorem lineR {e : Ev} (ho : okEv e) (hr : rightP e) : foldR ((nameF e.1).2.zip ((nameF e.1).2.map (wordL e))) (evZ e.1, true) = (e, true) := by
  rw [readR ho hr]; exact congrArg (·, true) hr.2.2.2.2.2.2
end Go.Proofs.YtghejeecanohoaaDoor

/-! A line that the reference takes is its event's. -/
set_option linter.unusedVariables false
set_option linter.unusedSimpArgs false
set_option maxRecDepth 100000
set_option maxHeartbeats 4000000
namespace Go.Proofs.YtghejeecanohoaaDoor
open Go.Eng

theorem hexR_okB (t : List Int) : okB (hexR t) := by
  unfold hexR
  repeat' split
  · exact fun c hc => nomatch hc
  · exact unhexL_ok t
  · exact fun c hc => nomatch hc
theorem hexR_len (t : List Int) : (hexR t).length ≤ t.length := by
  unfold hexR
  repeat' split
  · exact Nat.zero_le _
  · exact unhexL_len t.length t (by omega)
  · exact Nat.zero_le _
theorem okEv_srcR {t : List Int} (h : t.length ≤ 100000) : okEv (srcR t) := by
  refine ⟨by show (_ : Int) ≤ 0 ∧ (0 : Int) ≤ _; omega, hexR_okB t, ?_, Nat.le_trans (hexR_len t) (by omega), ?_⟩
  · show 0 ≤ (hexR t).headD 0 ∧ (hexR t).headD 0 < 256
    cases h : hexR t with
    | nil => simp
    | cons a l => have := hexR_okB t a (by rw [h]; exact List.mem_cons_self ..); exact this
  · show (strOfNums (hexR t)).size ≤ _
    rw [str_size]; exact Nat.le_trans (hexR_len t) (by omega)
theorem okEv_srcA {e : Ev} {t : List Int} (he : okEv e) (h : t.length ≤ 100000) : okEv (srcA e t) := by
  have hl := unhexL_len t.length t (by omega)
  refine ⟨by show (_ : Int) ≤ 0 ∧ (0 : Int) ≤ _; omega, unhexL_ok t, ?_, Nat.le_trans hl (by omega), ?_⟩
  · show 0 ≤ (unhexL t).getLastD e.2.2.2.2.2.2 ∧ (unhexL t).getLastD e.2.2.2.2.2.2 < 256
    cases h : (unhexL t).getLast? with
    | none => rw [List.getLastD_eq_getLast?, h]; exact he.2.2.1
    | some a => rw [List.getLastD_eq_getLast?, h]; exact unhexL_ok t a (List.mem_of_getLast? h)
  · show (strOfNums (unhexL t)).size ≤ _
    rw [str_size]; exact Nat.le_trans hl (by omega)
theorem okEv_foldA : ∀ (l : List (Int × List Int)) {e : Ev}, (∀ p, p ∈ l → p.2.length ≤ 100000) → okEv e → okEv (foldA l e)
  | [], _, _, h => h
  | p :: l, e, hl, h => okEv_foldA l (fun q hq => hl q (List.mem_cons_of_mem _ hq)) (okEv_set (okEv_srcA h (hl p (List.mem_cons_self ..))) h p.1)
theorem okEv_foldR : ∀ (l : List (Int × List Int)) {p : Ev × Bool}, (∀ p, p ∈ l → p.2.length ≤ 100000) → okEv p.1 → okEv (foldR l p).1
  | [], _, _, h => h
  | q :: l, p, hl, h => okEv_foldR l (fun q hq => hl q (List.mem_cons_of_mem _ hq)) (by
    show okEv (if q.1 = 5 ∧ (p.2 && okR q.1 q.2) = false then p.1 else setW (srcR q.2) p.1 q.1)
    split
    · exact h
    · exact okEv_set (okEv_srcR (hl q (List.mem_cons_self ..))) h q.1)
theorem setW_kind (s e : Ev) (w : Int) : (setW s e w).1 = e.1 := by
  unfold setW
  repeat' split
  all_goals rfl
theorem foldA_kind : ∀ (l : List (Int × List Int)) (e : Ev), (foldA l e).1 = e.1
  | [], _ => rfl
  | p :: l, e => (foldA_kind l _).trans (setW_kind _ _ _)

def isW (w : Int) : Prop := w = 0 ∨ w = 1 ∨ w = 2 ∨ w = 3 ∨ w = 4 ∨ w = 5
theorem word_same {w : Int} (h : isW w) (s e : Ev) : wordL (setW s e w) w = wordL s w := by
  rcases h with rfl | rfl | rfl | rfl | rfl | rfl <;> simp [setW, wordL]
theorem word_other {w v : Int} (h : isW w) (h' : isW v) (hn : v ≠ w) (s e : Ev) : wordL (setW s e w) v = wordL e v := by
  rcases h with rfl | rfl | rfl | rfl | rfl | rfl <;> rcases h' with rfl | rfl | rfl | rfl | rfl | rfl <;> first | exact absurd rfl hn | simp [setW, wordL]
theorem hexP_back {t : List Int} (h : hexOkR t = true) : hexP (hexR t) = t := by
  unfold hexOkR at h
  split at h
  · rename_i e; subst e; rfl
  · rename_i e
    split at h
    · cases h
    · rename_i e2
      have hl := (unhexOk_iff.1 h).1
      have hne : unhexL t ≠ [] := by
        match t, e2, hl with
        | [_], _, hl => simp at hl
        | a :: b :: l, _, _ => simp [unhexL]
      have : hexR t = unhexL t := by unfold hexR; rw [if_neg e, if_pos h]
      rw [this]
      unfold hexP
      rw [if_neg hne, hex_back h]
/-- A word that the reference takes is the field's. -/
theorem word_canon {w : Int} (h : isW w) {t : List Int} (hk : okR w t = true) : wordL (srcR t) w = t := by
  rcases h with rfl | rfl | rfl | rfl | rfl | rfl
  · have hk : numOk t = true := by simpa [okR] using hk
    show decL (numR t).toNat = t
    unfold numR; rw [if_pos hk]; exact (num_canon hk).2
  · have hk : numOk t = true := by simpa [okR] using hk
    show decL (numR t).toNat = t
    unfold numR; rw [if_pos hk]; exact (num_canon hk).2
  · have hk : numOk t = true := by simpa [okR] using hk
    show decL (numR t).toNat = t
    unfold numR; rw [if_pos hk]; exact (num_canon hk).2
  · have hk : hexOkR t = true := by simpa [okR] using hk
    show hexP (bytesL (strOfNums (hexR t))) = t
    rw [bytes_str (hexR_okB t)]; exact hexP_back hk
  · have hk : hexOkR t = true := by simpa [okR] using hk
    exact hexP_back hk
  · have hk : hexOkR t = true ∧ (hexR t).length = 1 := by simpa [okR] using hk
    show hexP [(hexR t).headD 0] = t
    obtain ⟨x, hx⟩ := List.length_eq_one_iff.1 hk.2
    have := hexP_back hk.1
    rw [hx] at this ⊢
    exact this
theorem foldR_true : ∀ (ws : List Int) (ts : List (List Int)) (e : Ev) (b : Bool) (e' : Ev), ws.length = ts.length → (∀ w, w ∈ ws → isW w) → ws.Nodup → foldR (ws.zip ts) (e, b) = (e', true) →
    b = true ∧ e'.1 = e.1 ∧ ws.map (wordL e') = ts ∧ ∀ v, isW v → v ∉ ws → wordL e' v = wordL e v
  | [], [], e, b, e', _, _, _, h => by
    obtain ⟨rfl, rfl⟩ := Prod.mk.inj h
    exact ⟨rfl, rfl, rfl, fun _ _ _ => rfl⟩
  | w :: ws, t :: ts, e, b, e', hl, hw, hn, h => by
    have hww := hw w (List.mem_cons_self ..)
    have hn' := List.nodup_cons.1 hn
    obtain ⟨h1, h2, h3, h4⟩ := foldR_true ws ts (stepR (e, b) w t).1 (stepR (e, b) w t).2 e' (by simpa using hl) (fun v hv => hw v (List.mem_cons_of_mem _ hv)) hn'.2 h
    have hb : b = true ∧ okR w t = true := by simpa [stepR] using h1
    have e1 : (stepR (e, b) w t).1 = setW (srcR t) e w := by
      show (if w = 5 ∧ (b && okR w t) = false then e else setW (srcR t) e w) = _
      rw [hb.1, hb.2, if_neg (by simp)]
    rw [e1] at h2 h4
    refine ⟨hb.1, h2.trans (setW_kind _ _ _), ?_, fun v hv hnv => ?_⟩
    · rw [List.map_cons, h3, h4 w hww hn'.1, word_same hww, word_canon hww hb.2]
    · rw [h4 v hv (fun hc => hnv (List.mem_cons_of_mem _ hc)), word_other hww hv (fun e => hnv (by rw [e]; exact List.mem_cons_self ..))]
  | [], _ :: _, _, _, _, h, _, _, _ => by simp at h
  | _ :: _, [], _, _, _, h, _, _, _ => by simp at h
theorem words_nodup (k : Int) : (nameF k).2.Nodup := by
  rcases wordsG k with h | h | h | h | h | h | h | h <;> rw [h] <;> decide
/-- What the reference reads out of a line tells that line. -/
theorem lineBack {k : Int} {l : List Int} {ts : List (List Int)} {e' : Ev} (hs : splitL 32 l = bytesL (nameF k).1 :: ts) (hl : (nameF k).2.length = ts.length)
    (h : foldR ((nameF k).2.zip ts) (evZ k, true) = (e', true)) : e'.1 = k ∧ lineL e' = l := by
  obtain ⟨_, h2, h3, _⟩ := foldR_true _ _ _ _ _ hl (fun w hw => words_rng k w hw) (words_nodup k) h
  have hk : e'.1 = k := h2
  refine ⟨hk, ?_⟩
  unfold lineL
  rw [line_join, hk, h3]
  exact (split_join l _ _ hs).symm

/-! ### Which event a line is -/
def isLine (l : List Int) (e : Ev) : Prop := okEv e ∧ rightP e ∧ lineL e = l
open Classical in
noncomputable def parseO (l : List Int) : Option Ev := if h : ∃ e, isLine l e then some (Classical.choose h) else none
theorem name_inj {k k' : Int} (h : bytesL (nameF k).1 = bytesL (nameF k').1) (hk : (nameF k).2 ≠ []) (hk' : (nameF k').2 ≠ []) : k = k' := by
  have h := bytes_inj h
  have r : ∀ k : Int, (nameF k).2 ≠ [] → 0 ≤ k ∧ k ≤ 10 := fun k hk => by
    by_cases hh : 0 ≤ k ∧ k ≤ 10
    · exact hh
    · exact absurd (by rw [nameF_none (by omega)]) hk
  obtain ⟨a, rfl⟩ := Int.eq_ofNat_of_zero_le (r k hk).1
  obtain ⟨b, rfl⟩ := Int.eq_ofNat_of_zero_le (r k' hk').1
  have ha := (r _ hk).2
  have hb := (r _ hk').2
  have key : ∀ m n : Fin 11, (nameF ((m : Nat) : Int)).1 = (nameF ((n : Nat) : Int)).1 → m = n := by decide
  have := key ⟨a, by omega⟩ ⟨b, by omega⟩ h
  have := congrArg Fin.val this
  dsimp only at this
  omega
theorem isLine_uniq {l : List Int} {e e' : Ev} (h : isLine l e) (h' : isLine l e') : e = e' := by
  obtain ⟨a1, a2, a3⟩ := h
  obtain ⟨b1, b2, b3⟩ := h'
  have s1 := split_line a1
  have s2 := split_line b1
  rw [a3] at s1
  rw [b3, s1] at s2
  obtain ⟨q1, q2⟩ := List.cons.inj s2
  have hk : e.1 = e'.1 := name_inj q1 a2.1 b2.1
  have l1 := lineA a1 a2
  have l2 := lineA b1 b2
  rw [q2, hk] at l1
  exact l1.symm.trans l2
theorem parseO_some {l : List Int} {e : Ev} (h : isLine l e) : parseO l = some e := by
  unfold parseO
  have hex : ∃ e, isLine l e := ⟨e, h⟩
  rw [dif_pos hex]
  exact congrArg some (isLine_uniq (Classical.choose_spec hex) h)
theorem parseO_none {l : List Int} (h : ∀ e, ¬ isLine l e) : parseO l = none := by
  unfold parseO
  rw [dif_neg (fun ⟨e, he⟩ => h e he)]
theorem parseO_line {l : List Int} {e : Ev} (h : parseO l = some e) : isLine l e := by
  unfold parseO at h
  split at h
  · rename_i hex
    obtain rfl := Option.some.inj h
    exact Classical.choose_spec hex
  · cases h
end Go.Proofs.YtghejeecanohoaaDoor

/-! Events: a line parsed. -/
set_option linter.unusedVariables false
set_option linter.unusedSimpArgs false
set_option maxRecDepth 100000
set_option maxHeartbeats 4000000
namespace Go.Proofs.YtghejeecanohoaaDoor
open Go.Eng

theorem okB_dec (n : Nat) : okB (decL n) := fun c hc => by
  have := List.all_eq_true.1 (decL_isD n) c hc
  simp only [isD, decide_eq_true_eq] at this
  omega
theorem okB_hex : ∀ {l : List Int}, okB l → okB (hexL l)
  | [], _ => fun c hc => nomatch hc
  | c :: l, h => by
    have hc := h c (List.mem_cons_self ..)
    exact okB_cons (dig_u (c / 16) (by omega)).2.2.2 (okB_cons (dig_u (c % 16) (by omega)).2.2.2 (okB_hex (okB_tail h)))
theorem okB_hexP {l : List Int} (h : okB l) : okB (hexP l) := by
  unfold hexP
  split
  · exact okB_cons (by omega) (fun c hc => nomatch hc)
  · exact okB_hex h
theorem okB_word {e : Ev} (h : okEv e) (w : Int) : okB (wordL e w) := by
  unfold wordL
  repeat' split
  · exact okB_dec _
  · exact okB_dec _
  · exact okB_dec _
  · exact okB_hexP (bytesL_ok _)
  · exact okB_hexP h.2.1
  · exact okB_hexP (okB_cons h.2.2.1 (fun _ h => nomatch h))
theorem okB_from {e : Ev} (h : okEv e) : ∀ (ws s : List Int), okB s → okB (lineFrom e ws s)
  | [], _, hs => hs
  | w :: ws, s, hs => okB_from h ws (addW e s w) (okB_app hs (okB_cons (by omega) (okB_word h w)))
theorem line_okB {e : Ev} (h : okEv e) : okB (lineL e) := okB_from h _ _ (bytesL_ok _)
theorem actLine_ok {e : Ev} (h : okEv e) : okB (actLine e) := by
  unfold actLine
  split
  · exact line_okB h
  · exact fun c hc => nomatch hc
noncomputable def parseE (s : ByteArray) : Ev := match parseO (bytesL s) with | some e => e | none => evZ 0
noncomputable def parseB (s : ByteArray) : Bool := (parseO (bytesL s)).isSome
theorem parse_some {s : ByteArray} {e : Ev} (h : isLine (bytesL s) e) : parseE s = e ∧ parseB s = true := by
  unfold parseE parseB; rw [parseO_some h]; exact ⟨rfl, rfl⟩
theorem parse_none {s : ByteArray} (h : ∀ e, ¬ isLine (bytesL s) e) : parseE s = evZ 0 ∧ parseB s = false := by
  unfold parseE parseB; rw [parseO_none h]; exact ⟨rfl, rfl⟩
theorem line_kind {l : List Int} {e : Ev} (h : isLine l e) : 0 ≤ e.1 ∧ e.1 ≤ 10 := by
  by_cases hh : 0 ≤ e.1 ∧ e.1 ≤ 10
  · exact hh
  · exact absurd (by rw [nameF_none (by omega)]) h.2.1.1
theorem name_ne {j : Nat} (h : j ≤ 10) : bytesL (nameF (j : Nat)).1 ≠ [] := by
  have key : ∀ m : Fin 11, bytesL (nameF ((m : Nat) : Int)).1 ≠ [] := by decide
  exact key ⟨j, by omega⟩
/-- A line of the kind: its words. -/
theorem line_words {l nm : List Int} {ts : List (List Int)} {e : Ev} (h : isLine l e) (hs : splitL 32 l = nm :: ts) : nm = bytesL (nameF e.1).1 ∧ ts = (nameF e.1).2.map (wordL e) := by
  have := split_line h.1
  rw [h.2.2, hs] at this
  exact List.cons.inj this
@[reducible] noncomputable def parseC : Ctr := {
  X := ByteArray
  Y := Unit
  args := fun s => [.v (.string s)]
  rw := fun _ => []
  side := fun s => s.size ≤ 100000
  val := fun _ => ()
  ens := fun _ _ => True
  res := fun s _ => .tuple [.agg (evS false (parseE s)), .v (.bool (parseB s))]
  out := fun _ _ => [] }
theorem knownO : Known Tryd.prog (gOf [(26, nameC), (14, lineC), (25, splitC), (27, atoiC), (28, unhexedC)]) :=
  known_cons ⟨name_ok, Tryd.call26⟩ (known_cons ⟨line_ok, Tryd.call14⟩ (known_cons ⟨split_ok, Tryd.call25⟩ (known_cons ⟨atoi_ok, Tryd.call27⟩ (known_cons ⟨unhexed_ok, Tryd.call28⟩ (known_nil _)))))
abbrev wsP (s : ByteArray) : List (List Int) := splitL 32 (bytesL s)
abbrev zipP (s : ByteArray) (j : Nat) : List (Int × List Int) := (nameF (j : Nat)).2.zip (wsP s).tail
theorem word_ok {s : ByteArray} {w : List Int} (h : w ∈ wsP s) : okB w ∧ w.length ≤ s.size := by
  obtain ⟨h1, h2⟩ := splitL_mem 32 _ w h
  rw [bytesL_length] at h1
  exact ⟨fun c hc => bytesL_ok s c (h2 c hc).1, h1⟩
@[reducible] def parL0 (s : ByteArray) : LA := {
  X := Nat
  pre := fun j => j ≤ 11 ∧ ∀ e, isLine (bytesL s) e → (j : Int) ≤ e.1
  mu := fun j => 11 - j
  T := fun j => [(0, .v (.string s)), (2, .ptr 2 0), (4, .ro false .str ((wsP s).map strOfNums)), (5, .v (.int .i64 (j : Nat)))]
  M := fun j => [(2, .cells 24 (evS false (evZ 0)))] }
@[reducible] def parL1 (s : ByteArray) (j : Nat) : LA := {
  X := Nat
  pre := fun i => i ≤ (nameF (j : Nat)).2.length
  mu := fun i => (nameF (j : Nat)).2.length - i
  T := fun i => [(0, .v (.string s)), (2, .ptr 2 0), (4, .ro false .str ((wsP s).map strOfNums)), (5, .v (.int .i64 (j : Nat))), (8, .ptr 3 0), (41, .ro false (.int .i64) (nameF (j : Nat)).2), (42, .v (.int .i64 (nameF (j : Nat)).2.length)), (43, .v (.int .i64 (i : Nat)))]
  M := fun i => [(2, .cells 24 (evS false (evZ 0))), (3, .cells 24 (evS false (foldA ((zipP s j).take i) (evZ (j : Nat)))))] }
abbrev setX (e : Ev) (x : Int) : Ev := (e.1, e.2.1, e.2.2.1, e.2.2.2.1, e.2.2.2.2.1, e.2.2.2.2.2.1, x)
@[reducible] def parL2 (s : ByteArray) (j i : Nat) : LA := {
  X := Nat
  pre := fun m => m ≤ (unhexL ((wsP s).tail.getD i [])).length
  mu := fun m => (unhexL ((wsP s).tail.getD i [])).length - m
  T := fun m => [(0, .v (.string s)), (2, .ptr 2 0), (4, .ro false .str ((wsP s).map strOfNums)), (5, .v (.int .i64 (j : Nat))), (8, .ptr 3 0), (41, .ro false (.int .i64) (nameF (j : Nat)).2), (42, .v (.int .i64 (nameF (j : Nat)).2.length)), (43, .v (.int .i64 (i : Nat))),
    (63, .ro false (.int .u8) (unhexL ((wsP s).tail.getD i []))), (64, .v (.int .i64 (unhexL ((wsP s).tail.getD i [])).length)), (65, .v (.int .i64 (m : Nat)))]
  M := fun m => [(2, .cells 24 (evS false (evZ 0))), (3, .cells 24 (evS false (setX (foldA ((zipP s j).take i) (evZ (j : Nat))) (((unhexL ((wsP s).tail.getD i [])).take m).getLastD (foldA ((zipP s j).take i) (evZ (j : Nat))).2.2.2.2.2.2))))] }
theorem parse_ok : parseC.ok Tryd.prog 9 := by
  refine ok_of_vc (An := fun (s : ByteArray) => anOfM fun ms => [(0, .loop (parL0 s)), (2, .loop (parL1 s (11 - ms.headD 0))), (5, .loop (parL2 s (11 - ms.getD 1 0) ((nameF ((11 - ms.getD 1 0 : Nat) : Int)).2.length - ms.headD 0)))])
    knownO mo Tryd.func9 (by kernel_rfl) (by kernel_rfl) (fun _ _ => trivial) (fun (s : ByteArray) hs => ?_)
  have hs : s.size ≤ 100000 := hs
  have hsp : splitS s ⟨#[32]⟩ = (wsP s).map strOfNums := splitS_L 32 s
  have hsl := splitL_le 32 (bytesL s)
  rw [bytesL_length] at hsl
  ((repeat' ((conv => whnf) <;> first | exact True.intro | (guard_target =~ Fork _ _ _; first | refine F1 ?_ | refine F2 ?_ | refine F3 (fun h => ?_) fun h => ?_) | (guard_target =~ Ar _ _ _; first | refine A1 ?_ | refine A2 ?_ | refine A3 ?_) | (guard_target =~ AskL _ _; first | refine L1 ?_) | (guard_target =~ Go.Eng.Ask _ _; first | refine K1 ?_) | (guard_target =~ All' _ _; first | (refine Y2 fun y he he' hy => ?_; (try dsimp only at he he' hy)) | (refine Y1 fun y he hy => ?_; (try with_reducible conv at he => (rhs; whnf)); (try dsimp only at he hy)) | (refine All'.mk ?_; intro y hy)) | refine F4 (fun h => ?_) fun h => ?_ | refine R1 ?_ | refine Q1 ?_ | fail)); all_goals (conv => whnf))
  refine CallP.mk (C := splitC) ⟨s, ⟨#[32]⟩⟩ ?_
  ((repeat' ((conv => whnf) <;> first | exact True.intro | (guard_target =~ Fork _ _ _; first | refine F1 ?_ | refine F2 ?_ | refine F3 (fun h => ?_) fun h => ?_) | (guard_target =~ Ar _ _ _; first | refine A1 ?_ | refine A2 ?_ | refine A3 ?_) | (guard_target =~ Go.Eng.Ask _ _; first | refine K1 ?_) | (guard_target =~ All' _ _; first | (refine Y2 fun y he he' hy => ?_; (try dsimp only at he he' hy)) | (refine Y1 fun y he hy => ?_; (try with_reducible conv at he => (rhs; whnf)); (try dsimp only at he hy)) | (refine All'.mk ?_; intro y hy)) | refine F4 (fun h => ?_) fun h => ?_ | refine R1 ?_ | refine Q1 ?_ | fail)); all_goals (conv => whnf))
  refine AskL.mk ⟨rfl, rfl⟩ ?_
  refine Ask.mk ⟨by show s.size < _; omega, Nat.le_refl 1⟩ ?_
  ((repeat' ((conv => whnf) <;> first | exact True.intro | (guard_target =~ Fork _ _ _; first | refine F1 ?_ | refine F2 ?_ | refine F3 (fun h => ?_) fun h => ?_) | (guard_target =~ Ar _ _ _; first | refine A1 ?_ | refine A2 ?_ | refine A3 ?_) | (guard_target =~ AskL _ _; first | refine L1 ?_) | (guard_target =~ Go.Eng.Ask _ _; first | refine K1 ?_) | (guard_target =~ All' _ _; first | (refine Y2 fun y he he' hy => ?_; (try dsimp only at he he' hy)) | (refine Y1 fun y he hy => ?_; (try with_reducible conv at he => (rhs; whnf)); (try dsimp only at he hy)) | (refine All'.mk ?_; intro y hy)) | refine F4 (fun h => ?_) fun h => ?_ | refine R1 ?_ | refine Q1 ?_ | fail)); all_goals (conv => whnf))
  refine Some'.mk (0 : Nat) ?_
  ((repeat' ((conv => whnf) <;> first | exact True.intro | (guard_target =~ Fork _ _ _; first | refine F1 ?_ | refine F2 ?_ | refine F3 (fun h => ?_) fun h => ?_) | (guard_target =~ Ar _ _ _; first | refine A1 ?_ | refine A2 ?_ | refine A3 ?_) | (guard_target =~ Go.Eng.Ask _ _; first | refine K1 ?_) | (guard_target =~ All' _ _; first | (refine Y2 fun y he he' hy => ?_; (try dsimp only at he he' hy)) | (refine Y1 fun y he hy => ?_; (try with_reducible conv at he => (rhs; whnf)); (try dsimp only at he hy)) | (refine All'.mk ?_; intro y hy)) | refine F4 (fun h => ?_) fun h => ?_ | refine R1 ?_ | refine Q1 ?_ | fail)); all_goals (conv => whnf))
  refine AskL.mk ?_ ?_
  · (dsimp only [conj]; repeat' apply And.intro) <;> first | rfl | (show SV.ro true .str (splitS s ⟨#[32]⟩) = _; rw [hsp])
  ((repeat' ((conv => whnf) <;> first | exact True.intro | (guard_target =~ Fork _ _ _; first | refine F1 ?_ | refine F2 ?_ | refine F3 (fun h => ?_) fun h => ?_) | (guard_target =~ Ar _ _ _; first | refine A1 ?_ | refine A2 ?_ | refine A3 ?_) | (guard_target =~ AskL _ _; first | refine L1 ?_) | (guard_target =~ Go.Eng.Ask _ _; first | refine K1 ?_) | (guard_target =~ All' _ _; first | (refine Y2 fun y he he' hy => ?_; (try dsimp only at he he' hy)) | (refine Y1 fun y he hy => ?_; (try with_reducible conv at he => (rhs; whnf)); (try dsimp only at he hy)) | (refine All'.mk ?_; intro y hy)) | refine F4 (fun h => ?_) fun h => ?_ | refine R1 ?_ | refine Q1 ?_ | fail)); all_goals (conv => whnf))
  refine Ask.mk ⟨by omega, fun e he => (line_kind he).1⟩ ?_
  ((repeat' ((conv => whnf) <;> first | exact True.intro | (guard_target =~ Fork _ _ _; first | refine F1 ?_ | refine F2 ?_ | refine F3 (fun h => ?_) fun h => ?_) | (guard_target =~ Ar _ _ _; first | refine A1 ?_ | refine A2 ?_ | refine A3 ?_) | (guard_target =~ AskL _ _; first | refine L1 ?_) | (guard_target =~ Go.Eng.Ask _ _; first | refine K1 ?_) | (guard_target =~ All' _ _; first | (refine Y2 fun y he he' hy => ?_; (try dsimp only at he he' hy)) | (refine Y1 fun y he hy => ?_; (try with_reducible conv at he => (rhs; whnf)); (try dsimp only at he hy)) | (refine All'.mk ?_; intro y hy)) | refine F4 (fun h => ?_) fun h => ?_ | refine R1 ?_ | refine Q1 ?_ | fail)); all_goals (conv => whnf))
  refine AllI.mk ?_
  rintro (j : Nat) ⟨hj, hno⟩
  have hj : j ≤ 11 := hj
  have hno : ∀ e, isLine (bytesL s) e → (j : Int) ≤ e.1 := hno
  by_cases h11 : j = 11
  · subst h11
    obtain ⟨p1, p2⟩ := parse_none (s := s) (fun e he => by
      have h1 := hno e he
      have h2 := (line_kind he).2
      omega)
    ((repeat' ((conv => whnf) <;> first | exact True.intro | (guard_target =~ Fork _ _ _; first | refine F1 ?_ | refine F2 ?_ | refine F3 (fun h => ?_) fun h => ?_) | (guard_target =~ Ar _ _ _; first | refine A1 ?_ | refine A2 ?_ | refine A3 ?_) | (guard_target =~ AskL _ _; first | refine L1 ?_) | (guard_target =~ Go.Eng.Ask _ _; first | refine K1 ?_) | (guard_target =~ All' _ _; first | (refine Y2 fun y he he' hy => ?_; (try dsimp only at he he' hy)) | (refine Y1 fun y he hy => ?_; (try with_reducible conv at he => (rhs; whnf)); (try dsimp only at he hy)) | (refine All'.mk ?_; intro y hy)) | refine F4 (fun h => ?_) fun h => ?_ | refine R1 ?_ | refine Q1 ?_ | fail)); all_goals (conv => whnf))
    refine AskL.mk ?_ trivial
    rw [p1, p2]
    (dsimp only [conj]; repeat' apply And.intro) <;> rfl
  · obtain ⟨nm, ts, hL⟩ : ∃ nm ts, wsP s = nm :: ts := by
      cases h : wsP s with
      | nil => exact absurd h (splitL_ne 32 _)
      | cons a b => exact ⟨a, b, rfl⟩
    have hwo := word_ok (s := s) (w := nm) (by rw [hL]; exact List.mem_cons_self ..)
    have hto : ∀ t, t ∈ ts → okB t ∧ t.length ≤ s.size := fun t ht => word_ok (by rw [hL]; exact List.mem_cons_of_mem _ ht)
    have hnext : ¬ (nm = bytesL (nameF (j : Nat)).1 ∧ (nameF (j : Nat)).2.length = ts.length) → ∀ e, isLine (bytesL s) e → ((j + 1 : Nat) : Int) ≤ e.1 := fun hn e he => by
      have h1 := hno e he
      by_cases hk : e.1 = (j : Int)
      · obtain ⟨g1, g2⟩ := line_words he hL
        rw [hk] at g1 g2
        exact absurd ⟨g1, by rw [g2, List.length_map]⟩ hn
      · omega
    dsimp only [parL0]
    rw [hL, List.map_cons]
    have hwl := words_len (j : Nat)
    have hlc : (strOfNums nm :: ts.map strOfNums).length = ts.length + 1 := by rw [List.length_cons, List.length_map]
    by_cases hA1 : nm = bytesL (nameF (j : Nat)).1
    · have k1 : ((strOfNums nm).toList == (nameF (j : Nat)).1.toList) = true := by rw [hA1, str_bytesL]; exact beq_self_eq_true _
      by_cases hA2 : (nameF (j : Nat)).2.length = ts.length
      · ((repeat' ((conv => whnf) <;> first | exact True.intro | (guard_target =~ Fork _ _ _; first | refine F1 ?_ | refine F2 ?_ | refine F3 (fun h => ?_) fun h => ?_) | (guard_target =~ Ar _ _ _; first | refine A1 ?_ | refine A2 ?_ | refine A3 ?_) | (guard_target =~ AskL _ _; first | refine L1 ?_) | (guard_target =~ Go.Eng.Ask _ _; first | refine K1 ?_) | (guard_target =~ All' _ _; first | (refine Y2 fun y he he' hy => ?_; (try dsimp only at he he' hy)) | (refine Y1 fun y he hy => ?_; (try with_reducible conv at he => (rhs; whnf)); (try dsimp only at he hy)) | (refine All'.mk ?_; intro y hy)) | refine F4 (fun h => ?_) fun h => ?_ | refine R1 ?_ | refine Q1 ?_ | fail)); all_goals (conv => whnf))
        refine CallP.mk (C := nameC) (j : Nat) ?_
        ((repeat' ((conv => whnf) <;> first | exact True.intro | (guard_target =~ Fork _ _ _; first | refine F1 ?_ | refine F2 ?_ | refine F3 (fun h => ?_) fun h => ?_) | (guard_target =~ Ar _ _ _; first | refine A1 ?_ | refine A2 ?_ | refine A3 ?_) | (guard_target =~ AskL _ _; first | refine L1 ?_) | (guard_target =~ Go.Eng.Ask _ _; first | refine K1 ?_) | (guard_target =~ All' _ _; first | (refine Y2 fun y he he' hy => ?_; (try dsimp only at he he' hy)) | (refine Y1 fun y he hy => ?_; (try with_reducible conv at he => (rhs; whnf)); (try dsimp only at he hy))) | refine F4 (fun h => ?_) fun h => ?_ | refine R1 ?_ | refine Q1 ?_ | fail)); all_goals (conv => whnf))
        refine All'.mk ?_; rintro (y : ByteArray) hy
        obtain rfl : strOfNums nm = y := Option.some.inj hy
        have lm := k1
        ((repeat' ((conv => whnf) <;> first | exact True.intro | (guard_target =~ Fork _ _ _; first | refine F1 ?_ | refine F2 ?_ | refine F3 (fun h => ?_) fun h => ?_) | (guard_target =~ Ar _ _ _; first | refine A1 ?_ | refine A2 ?_ | refine A3 ?_) | (guard_target =~ AskL _ _; first | refine L1 ?_) | (guard_target =~ Go.Eng.Ask _ _; first | refine K1 ?_) | (guard_target =~ All' _ _; first | (refine Y2 fun y he he' hy => ?_; (try dsimp only at he he' hy)) | (refine Y1 fun y he hy => ?_; (try with_reducible conv at he => (rhs; whnf)); (try dsimp only at he hy)) | (refine All'.mk ?_; intro y hy)) | refine F4 (fun h => ?_) fun h => ?_ | refine R1 ?_ | refine Q1 ?_ | fail)); all_goals (conv => whnf))
        have htl : (wsP s).tail = ts := by rw [hL]; rfl
        have hj11 : 11 - (11 - j) = j := by omega
        rw [show 11 - ([11 - j] : List Nat).headD 0 = j from hj11]
        refine Some'.mk (0 : Nat) ?_
        dsimp only [parL1]
        rw [hL, List.map_cons]
        ((repeat' ((conv => whnf) <;> first | exact True.intro | (guard_target =~ Fork _ _ _; first | refine F1 ?_ | refine F2 ?_ | refine F3 (fun h => ?_) fun h => ?_) | (guard_target =~ Ar _ _ _; first | refine A1 ?_ | refine A2 ?_ | refine A3 ?_) | (guard_target =~ AskL _ _; first | refine L1 ?_) | (guard_target =~ Go.Eng.Ask _ _; first | refine K1 ?_) | (guard_target =~ All' _ _; first | (refine Y2 fun y he he' hy => ?_; (try dsimp only at he he' hy)) | (refine Y1 fun y he hy => ?_; (try with_reducible conv at he => (rhs; whnf)); (try dsimp only at he hy)) | (refine All'.mk ?_; intro y hy)) | refine F4 (fun h => ?_) fun h => ?_ | refine R1 ?_ | refine Q1 ?_ | fail)); all_goals (conv => whnf))
        refine AllI.mk ?_
        rintro (i : Nat) hi
        have hi : i ≤ (nameF (j : Nat)).2.length := hi
        by_cases hi2 : i = (nameF (j : Nat)).2.length
        · subst hi2
          have hzl : (zipP s j).length = (nameF (j : Nat)).2.length := by
            show ((nameF (j : Nat)).2.zip (wsP s).tail).length = _
            rw [htl, List.length_zip]; omega
          have hzt : (zipP s j).take (nameF (j : Nat)).2.length = zipP s j := by rw [← hzl]; exact List.take_length
          have hzp : zipP s j = (nameF (j : Nat)).2.zip ts := by show (nameF (j : Nat)).2.zip (wsP s).tail = _; rw [htl]
          rw [hzt]
          have hEk := foldA_kind (zipP s j) (evZ (j : Nat))
          have hEo : okEv (foldA (zipP s j) (evZ (j : Nat))) := okEv_foldA _ (fun p hp => by
            rw [hzp] at hp
            have := (hto p.2 (List.of_mem_zip hp).2).2
            omega) (okEv_zero ⟨by omega, by omega⟩)
          have hEl : ∀ e, isLine (bytesL s) e → e.1 = (j : Int) → e = foldA (zipP s j) (evZ (j : Nat)) := fun e he hk => by
            have h1 := lineA he.1 he.2.1
            rw [hk] at h1
            obtain ⟨_, g2⟩ := line_words he hL
            rw [hk] at g2
            rw [hzp, g2]; exact h1.symm
          generalize foldA (zipP s j) (evZ (j : Nat)) = E at hEk hEo hEl
          ((repeat' ((conv => whnf) <;> first | exact True.intro | (guard_target =~ Fork _ _ _; first | refine F1 ?_ | refine F2 ?_ | refine F3 (fun h => ?_) fun h => ?_) | (guard_target =~ Ar _ _ _; first | refine A1 ?_ | refine A2 ?_ | refine A3 ?_) | (guard_target =~ AskL _ _; first | refine L1 ?_) | (guard_target =~ Go.Eng.Ask _ _; first | refine K1 ?_) | (guard_target =~ All' _ _; first | (refine Y2 fun y he he' hy => ?_; (try dsimp only at he he' hy)) | (refine Y1 fun y he hy => ?_; (try with_reducible conv at he => (rhs; whnf)); (try dsimp only at he hy)) | (refine All'.mk ?_; intro y hy)) | refine F4 (fun h => ?_) fun h => ?_ | refine R1 ?_ | refine Q1 ?_ | fail)); all_goals (conv => whnf))
          refine CallP.mk (C := lineC) E ?_
          ((repeat' ((conv => whnf) <;> first | exact True.intro | (guard_target =~ Fork _ _ _; first | refine F1 ?_ | refine F2 ?_ | refine F3 (fun h => ?_) fun h => ?_) | (guard_target =~ Ar _ _ _; first | refine A1 ?_ | refine A2 ?_ | refine A3 ?_) | (guard_target =~ Go.Eng.Ask _ _; first | refine K1 ?_) | (guard_target =~ All' _ _; first | (refine Y2 fun y he he' hy => ?_; (try dsimp only at he he' hy)) | (refine Y1 fun y he hy => ?_; (try with_reducible conv at he => (rhs; whnf)); (try dsimp only at he hy)) | (refine All'.mk ?_; intro y hy)) | refine F4 (fun h => ?_) fun h => ?_ | refine R1 ?_ | refine Q1 ?_ | fail)); all_goals (conv => whnf))
          refine AskL.mk ?_ ?_
          · (dsimp only [conj]; repeat' apply And.intro) <;> rfl
          refine Ask.mk hEo ?_
          by_cases hq : actLine E = bytesL s
          · have k2 : ((strOfNums (actLine E)).toList == s.toList) = true := by rw [hq, str_bytesL]; exact beq_self_eq_true _
            have hne : bytesL s ≠ [] := fun h0 => by
              have h1 : splitL 32 (bytesL s) = [[]] := by rw [h0]; rfl
              rw [show splitL 32 (bytesL s) = nm :: ts from hL] at h1
              obtain ⟨rfl, -⟩ := List.cons.inj h1
              exact name_ne (by omega) hA1.symm
            have hrE : rightP E := by
              by_cases h : rightP E
              · exact h
              · exact absurd (hq.symm.trans (if_neg (by rw [rightB_false h]; simp))) hne
            have hl : isLine (bytesL s) E := ⟨hEo, hrE, by rw [← hq]; exact (if_pos (rightB_true hrE)).symm⟩
            obtain ⟨p1, p2⟩ := parse_some hl
            have lm := k2
            ((repeat' ((conv => whnf) <;> first | exact True.intro | (guard_target =~ Fork _ _ _; first | refine F1 ?_ | refine F2 ?_ | refine F3 (fun h => ?_) fun h => ?_) | (guard_target =~ Ar _ _ _; first | refine A1 ?_ | refine A2 ?_ | refine A3 ?_) | (guard_target =~ Go.Eng.Ask _ _; first | refine K1 ?_) | (guard_target =~ All' _ _; first | (refine Y2 fun y he he' hy => ?_; (try dsimp only at he he' hy)) | (refine Y1 fun y he hy => ?_; (try with_reducible conv at he => (rhs; whnf)); (try dsimp only at he hy)) | (refine All'.mk ?_; intro y hy)) | refine F4 (fun h => ?_) fun h => ?_ | refine R1 ?_ | refine Q1 ?_ | fail)); all_goals (conv => whnf))
            refine AskL.mk ?_ trivial
            rw [p1, p2]
            (dsimp only [conj]; repeat' apply And.intro) <;> rfl
          · have k2 : ((strOfNums (actLine E)).toList == s.toList) = false := by
              rw [str_beq]
              refine decide_eq_false (fun hh => hq ?_)
              rw [← hh, bytes_str (actLine_ok hEo)]
            have lm := k2
            ((repeat' ((conv => whnf) <;> first | exact True.intro | (guard_target =~ Fork _ _ _; first | refine F1 ?_ | refine F2 ?_ | refine F3 (fun h => ?_) fun h => ?_) | (guard_target =~ Ar _ _ _; first | refine A1 ?_ | refine A2 ?_ | refine A3 ?_) | (guard_target =~ AskL _ _; first | refine L1 ?_) | (guard_target =~ Go.Eng.Ask _ _; first | refine K1 ?_) | (guard_target =~ All' _ _; first | (refine Y2 fun y he he' hy => ?_; (try dsimp only at he he' hy)) | (refine Y1 fun y he hy => ?_; (try with_reducible conv at he => (rhs; whnf)); (try dsimp only at he hy)) | (refine All'.mk ?_; intro y hy)) | refine F4 (fun h => ?_) fun h => ?_ | refine R1 ?_ | refine Q1 ?_ | fail)); all_goals (conv => whnf))
            refine Some'.mk (j + 1) ?_
            ((repeat' ((conv => whnf) <;> first | exact True.intro | (guard_target =~ Fork _ _ _; first | refine F1 ?_ | refine F2 ?_ | refine F3 (fun h => ?_) fun h => ?_) | (guard_target =~ Ar _ _ _; first | refine A1 ?_ | refine A2 ?_ | refine A3 ?_) | (guard_target =~ AskL _ _; first | refine L1 ?_) | (guard_target =~ Go.Eng.Ask _ _; first | refine K1 ?_) | (guard_target =~ All' _ _; first | (refine Y2 fun y he he' hy => ?_; (try dsimp only at he he' hy)) | (refine Y1 fun y he hy => ?_; (try with_reducible conv at he => (rhs; whnf)); (try dsimp only at he hy)) | (refine All'.mk ?_; intro y hy)) | refine F4 (fun h => ?_) fun h => ?_ | refine R1 ?_ | refine Q1 ?_ | fail)); all_goals (conv => whnf))
            refine Ask.mk ⟨by omega, fun e he => ?_⟩ ?_
            · have h1 := hno e he
              by_cases hk : e.1 = (j : Int)
              · obtain rfl := hEl e he hk
                exact absurd ((if_pos (rightB_true he.2.1)).trans he.2.2) hq
              · omega
            exact G1
        · obtain ⟨w, hw⟩ : ∃ w, (nameF (j : Nat)).2[i]? = some w := ⟨_, List.getElem?_eq_getElem (by omega)⟩
          obtain ⟨t, ht⟩ : ∃ t, ts[i]? = some t := ⟨_, List.getElem?_eq_getElem (by omega)⟩
          have hz : (zipP s j)[i]? = some (w, t) := by
            show ((nameF (j : Nat)).2.zip (wsP s).tail)[i]? = _
            rw [htl, List.getElem?_zip_eq_some]
            exact ⟨hw, ht⟩
          have hzs := foldA_snoc ((zipP s j).take i) (w, t) (evZ (j : Nat))
          rw [← take_get hz] at hzs
          have htd : (wsP s).tail.getD i [] = t := by rw [htl, List.getD_eq_getElem?_getD, ht]; rfl
          obtain ⟨hot, hlt⟩ := hto t (List.mem_of_getElem? ht)
          have hbt := bytes_str hot
          have hst := str_size t
          have hul := unhexL_len t.length t (by omega)
          obtain ⟨a, ha⟩ : ∃ a, a = foldA ((zipP s j).take i) (evZ (j : Nat)) := ⟨_, rfl⟩
          rw [← ha] at hzs ⊢
          obtain ⟨a1, a2, a3, a4, a5, a6, a7⟩ := a
          ((repeat' ((conv => whnf) <;> first | exact True.intro | (guard_target =~ Fork _ _ _; first | refine F1 ?_ | refine F2 ?_ | refine F3 (fun h => ?_) fun h => ?_) | (guard_target =~ Ar _ _ _; first | refine A1 ?_ | refine A2 ?_ | refine A3 ?_) | (guard_target =~ AskL _ _; first | refine L1 ?_) | (guard_target =~ Go.Eng.Ask _ _; first | refine K1 ?_) | (guard_target =~ All' _ _; first | (refine Y2 fun y he he' hy => ?_; (try dsimp only at he he' hy)) | (refine Y1 fun y he hy => ?_; (try with_reducible conv at he => (rhs; whnf)); (try dsimp only at he hy))) | refine F4 (fun h => ?_) fun h => ?_ | refine R1 ?_ | refine Q1 ?_ | fail)); all_goals (conv => whnf))
          refine All'.mk ?_; rintro (w' : Int) hw'
          obtain rfl : w = w' := Option.some.inj (hw.symm.trans hw')
          ((repeat' ((conv => whnf) <;> first | exact True.intro | (guard_target =~ Fork _ _ _; first | refine F1 ?_ | refine F2 ?_ | refine F3 (fun h => ?_) fun h => ?_) | (guard_target =~ Ar _ _ _; first | refine A1 ?_ | refine A2 ?_ | refine A3 ?_) | (guard_target =~ AskL _ _; first | refine L1 ?_) | (guard_target =~ Go.Eng.Ask _ _; first | refine K1 ?_) | (guard_target =~ All' _ _; first | (refine Y2 fun y he he' hy => ?_; (try dsimp only at he he' hy)) | (refine Y1 fun y he hy => ?_; (try with_reducible conv at he => (rhs; whnf)); (try dsimp only at he hy))) | refine F4 (fun h => ?_) fun h => ?_ | refine R1 ?_ | refine Q1 ?_ | fail)); all_goals (conv => whnf))
          refine Ask.mk ?_ ?_
          · constructor <;> omega
          ((repeat' ((conv => whnf) <;> first | exact True.intro | (guard_target =~ Fork _ _ _; first | refine F1 ?_ | refine F2 ?_ | refine F3 (fun h => ?_) fun h => ?_) | (guard_target =~ Ar _ _ _; first | refine A1 ?_ | refine A2 ?_ | refine A3 ?_) | (guard_target =~ AskL _ _; first | refine L1 ?_) | (guard_target =~ Go.Eng.Ask _ _; first | refine K1 ?_) | (guard_target =~ All' _ _; first | (refine Y2 fun y he he' hy => ?_; (try dsimp only at he he' hy)) | (refine Y1 fun y he hy => ?_; (try with_reducible conv at he => (rhs; whnf)); (try dsimp only at he hy))) | refine F4 (fun h => ?_) fun h => ?_ | refine R1 ?_ | refine Q1 ?_ | fail)); all_goals (conv => whnf))
          refine All'.mk ?_; rintro (y : ByteArray) hy
          obtain rfl : strOfNums t = y := by
            have hy : (strOfNums nm :: ts.map strOfNums)[i + 1]? = some y := hy
            rw [List.getElem?_cons_succ, List.getElem?_map, ht] at hy
            exact Option.some.inj hy
          ((repeat' ((conv => whnf) <;> first | exact True.intro | (guard_target =~ Fork _ _ _; first | refine F1 ?_ | refine F2 ?_ | refine F3 (fun h => ?_) fun h => ?_) | (guard_target =~ Ar _ _ _; first | refine A1 ?_ | refine A2 ?_ | refine A3 ?_) | (guard_target =~ AskL _ _; first | refine L1 ?_) | (guard_target =~ Go.Eng.Ask _ _; first | refine K1 ?_) | (guard_target =~ All' _ _; first | (refine Y2 fun y he he' hy => ?_; (try dsimp only at he he' hy)) | (refine Y1 fun y he hy => ?_; (try with_reducible conv at he => (rhs; whnf)); (try dsimp only at he hy)) | (refine All'.mk ?_; intro y hy)) | refine F4 (fun h => ?_) fun h => ?_ | refine R1 ?_ | refine Q1 ?_ | fail)); all_goals (conv => whnf))
          refine CallP.mk (C := atoiC) (strOfNums t) ?_
          ((repeat' ((conv => whnf) <;> first | exact True.intro | (guard_target =~ Fork _ _ _; first | refine F1 ?_ | refine F2 ?_ | refine F3 (fun h => ?_) fun h => ?_) | (guard_target =~ Ar _ _ _; first | refine A1 ?_ | refine A2 ?_ | refine A3 ?_) | (guard_target =~ AskL _ _; first | refine L1 ?_) | (guard_target =~ Go.Eng.Ask _ _; first | refine K1 ?_) | (guard_target =~ All' _ _; first | (refine Y2 fun y he he' hy => ?_; (try dsimp only at he he' hy)) | (refine Y1 fun y he hy => ?_; (try with_reducible conv at he => (rhs; whnf)); (try dsimp only at he hy)) | (refine All'.mk ?_; intro y hy)) | refine F4 (fun h => ?_) fun h => ?_ | refine R1 ?_ | refine Q1 ?_ | fail)); all_goals (conv => whnf))
          · obtain rfl : w = 0 := h
            refine Some'.mk (i + 1) ?_
            rw [hzs]
            ((repeat' ((conv => whnf) <;> first | exact True.intro | (guard_target =~ Fork _ _ _; first | refine F1 ?_ | refine F2 ?_ | refine F3 (fun h => ?_) fun h => ?_) | (guard_target =~ Ar _ _ _; first | refine A1 ?_ | refine A2 ?_ | refine A3 ?_) | (guard_target =~ Go.Eng.Ask _ _; first | refine K1 ?_) | (guard_target =~ All' _ _; first | (refine Y2 fun y he he' hy => ?_; (try dsimp only at he he' hy)) | (refine Y1 fun y he hy => ?_; (try with_reducible conv at he => (rhs; whnf)); (try dsimp only at he hy)) | (refine All'.mk ?_; intro y hy)) | refine F4 (fun h => ?_) fun h => ?_ | refine R1 ?_ | refine Q1 ?_ | fail)); all_goals (conv => whnf))
            refine AskL.mk ?_ ?_
            · (dsimp only [conj]; repeat' apply And.intro) <;> first | rfl | omega
            exact G1
          · obtain rfl : w = 1 := h
            refine Some'.mk (i + 1) ?_
            rw [hzs]
            ((repeat' ((conv => whnf) <;> first | exact True.intro | (guard_target =~ Fork _ _ _; first | refine F1 ?_ | refine F2 ?_ | refine F3 (fun h => ?_) fun h => ?_) | (guard_target =~ Ar _ _ _; first | refine A1 ?_ | refine A2 ?_ | refine A3 ?_) | (guard_target =~ Go.Eng.Ask _ _; first | refine K1 ?_) | (guard_target =~ All' _ _; first | (refine Y2 fun y he he' hy => ?_; (try dsimp only at he he' hy)) | (refine Y1 fun y he hy => ?_; (try with_reducible conv at he => (rhs; whnf)); (try dsimp only at he hy)) | (refine All'.mk ?_; intro y hy)) | refine F4 (fun h => ?_) fun h => ?_ | refine R1 ?_ | refine Q1 ?_ | fail)); all_goals (conv => whnf))
            refine AskL.mk ?_ ?_
            · (dsimp only [conj]; repeat' apply And.intro) <;> first | rfl | omega
            exact G1
          · obtain rfl : w = 2 := h
            refine Some'.mk (i + 1) ?_
            rw [hzs]
            ((repeat' ((conv => whnf) <;> first | exact True.intro | (guard_target =~ Fork _ _ _; first | refine F1 ?_ | refine F2 ?_ | refine F3 (fun h => ?_) fun h => ?_) | (guard_target =~ Ar _ _ _; first | refine A1 ?_ | refine A2 ?_ | refine A3 ?_) | (guard_target =~ Go.Eng.Ask _ _; first | refine K1 ?_) | (guard_target =~ All' _ _; first | (refine Y2 fun y he he' hy => ?_; (try dsimp only at he he' hy)) | (refine Y1 fun y he hy => ?_; (try with_reducible conv at he => (rhs; whnf)); (try dsimp only at he hy)) | (refine All'.mk ?_; intro y hy)) | refine F4 (fun h => ?_) fun h => ?_ | refine R1 ?_ | refine Q1 ?_ | fail)); all_goals (conv => whnf))
            refine AskL.mk ?_ ?_
            · (dsimp only [conj]; repeat' apply And.intro) <;> first | rfl | omega
            exact G1
          · obtain rfl : w = 3 := h
            refine Ask.mk ?_ ?_
            · constructor <;> omega
            ((repeat' ((conv => whnf) <;> first | exact True.intro | (guard_target =~ Fork _ _ _; first | refine F1 ?_ | refine F2 ?_ | refine F3 (fun h => ?_) fun h => ?_) | (guard_target =~ Ar _ _ _; first | refine A1 ?_ | refine A2 ?_ | refine A3 ?_) | (guard_target =~ AskL _ _; first | refine L1 ?_) | (guard_target =~ Go.Eng.Ask _ _; first | refine K1 ?_) | (guard_target =~ All' _ _; first | (refine Y2 fun y he he' hy => ?_; (try dsimp only at he he' hy)) | (refine Y1 fun y he hy => ?_; (try with_reducible conv at he => (rhs; whnf)); (try dsimp only at he hy))) | refine F4 (fun h => ?_) fun h => ?_ | refine R1 ?_ | refine Q1 ?_ | fail)); all_goals (conv => whnf))
            refine All'.mk ?_; rintro (y : ByteArray) hy
            obtain rfl : strOfNums t = y := by
              have hy : (strOfNums nm :: ts.map strOfNums)[i + 1]? = some y := hy
              rw [List.getElem?_cons_succ, List.getElem?_map, ht] at hy
              exact Option.some.inj hy
            ((repeat' ((conv => whnf) <;> first | exact True.intro | (guard_target =~ Fork _ _ _; first | refine F1 ?_ | refine F2 ?_ | refine F3 (fun h => ?_) fun h => ?_) | (guard_target =~ Ar _ _ _; first | refine A1 ?_ | refine A2 ?_ | refine A3 ?_) | (guard_target =~ AskL _ _; first | refine L1 ?_) | (guard_target =~ Go.Eng.Ask _ _; first | refine K1 ?_) | (guard_target =~ All' _ _; first | (refine Y2 fun y he he' hy => ?_; (try dsimp only at he he' hy)) | (refine Y1 fun y he hy => ?_; (try with_reducible conv at he => (rhs; whnf)); (try dsimp only at he hy)) | (refine All'.mk ?_; intro y hy)) | refine F4 (fun h => ?_) fun h => ?_ | refine R1 ?_ | refine Q1 ?_ | fail)); all_goals (conv => whnf))
            refine CallP.mk (C := unhexedC) (strOfNums t) ?_
            ((repeat' ((conv => whnf) <;> first | exact True.intro | (guard_target =~ Fork _ _ _; first | refine F1 ?_ | refine F2 ?_ | refine F3 (fun h => ?_) fun h => ?_) | (guard_target =~ Ar _ _ _; first | refine A1 ?_ | refine A2 ?_ | refine A3 ?_) | (guard_target =~ AskL _ _; first | refine L1 ?_) | (guard_target =~ Go.Eng.Ask _ _; first | refine K1 ?_) | (guard_target =~ All' _ _; first | (refine Y2 fun y he he' hy => ?_; (try dsimp only at he he' hy)) | (refine Y1 fun y he hy => ?_; (try with_reducible conv at he => (rhs; whnf)); (try dsimp only at he hy)) | (refine All'.mk ?_; intro y hy)) | refine F4 (fun h => ?_) fun h => ?_ | refine R1 ?_ | refine Q1 ?_ | fail)); all_goals (conv => whnf))
            refine Some'.mk (i + 1) ?_
            rw [hzs]
            ((repeat' ((conv => whnf) <;> first | exact True.intro | (guard_target =~ Fork _ _ _; first | refine F1 ?_ | refine F2 ?_ | refine F3 (fun h => ?_) fun h => ?_) | (guard_target =~ Ar _ _ _; first | refine A1 ?_ | refine A2 ?_ | refine A3 ?_) | (guard_target =~ Go.Eng.Ask _ _; first | refine K1 ?_) | (guard_target =~ All' _ _; first | (refine Y2 fun y he he' hy => ?_; (try dsimp only at he he' hy)) | (refine Y1 fun y he hy => ?_; (try with_reducible conv at he => (rhs; whnf)); (try dsimp only at he hy)) | (refine All'.mk ?_; intro y hy)) | refine F4 (fun h => ?_) fun h => ?_ | refine R1 ?_ | refine Q1 ?_ | fail)); all_goals (conv => whnf))
            refine AskL.mk ?_ ?_
            · rw [hbt]
              (dsimp only [conj]; repeat' apply And.intro) <;> first | rfl | omega
            exact G1
          · obtain rfl : w = 4 := h
            refine Ask.mk ?_ ?_
            · constructor <;> omega
            ((repeat' ((conv => whnf) <;> first | exact True.intro | (guard_target =~ Fork _ _ _; first | refine F1 ?_ | refine F2 ?_ | refine F3 (fun h => ?_) fun h => ?_) | (guard_target =~ Ar _ _ _; first | refine A1 ?_ | refine A2 ?_ | refine A3 ?_) | (guard_target =~ AskL _ _; first | refine L1 ?_) | (guard_target =~ Go.Eng.Ask _ _; first | refine K1 ?_) | (guard_target =~ All' _ _; first | (refine Y2 fun y he he' hy => ?_; (try dsimp only at he he' hy)) | (refine Y1 fun y he hy => ?_; (try with_reducible conv at he => (rhs; whnf)); (try dsimp only at he hy))) | refine F4 (fun h => ?_) fun h => ?_ | refine R1 ?_ | refine Q1 ?_ | fail)); all_goals (conv => whnf))
            refine All'.mk ?_; rintro (y : ByteArray) hy
            obtain rfl : strOfNums t = y := by
              have hy : (strOfNums nm :: ts.map strOfNums)[i + 1]? = some y := hy
              rw [List.getElem?_cons_succ, List.getElem?_map, ht] at hy
              exact Option.some.inj hy
            ((repeat' ((conv => whnf) <;> first | exact True.intro | (guard_target =~ Fork _ _ _; first | refine F1 ?_ | refine F2 ?_ | refine F3 (fun h => ?_) fun h => ?_) | (guard_target =~ Ar _ _ _; first | refine A1 ?_ | refine A2 ?_ | refine A3 ?_) | (guard_target =~ AskL _ _; first | refine L1 ?_) | (guard_target =~ Go.Eng.Ask _ _; first | refine K1 ?_) | (guard_target =~ All' _ _; first | (refine Y2 fun y he he' hy => ?_; (try dsimp only at he he' hy)) | (refine Y1 fun y he hy => ?_; (try with_reducible conv at he => (rhs; whnf)); (try dsimp only at he hy)) | (refine All'.mk ?_; intro y hy)) | refine F4 (fun h => ?_) fun h => ?_ | refine R1 ?_ | refine Q1 ?_ | fail)); all_goals (conv => whnf))
            refine CallP.mk (C := unhexedC) (strOfNums t) ?_
            ((repeat' ((conv => whnf) <;> first | exact True.intro | (guard_target =~ Fork _ _ _; first | refine F1 ?_ | refine F2 ?_ | refine F3 (fun h => ?_) fun h => ?_) | (guard_target =~ Ar _ _ _; first | refine A1 ?_ | refine A2 ?_ | refine A3 ?_) | (guard_target =~ AskL _ _; first | refine L1 ?_) | (guard_target =~ Go.Eng.Ask _ _; first | refine K1 ?_) | (guard_target =~ All' _ _; first | (refine Y2 fun y he he' hy => ?_; (try dsimp only at he he' hy)) | (refine Y1 fun y he hy => ?_; (try with_reducible conv at he => (rhs; whnf)); (try dsimp only at he hy)) | (refine All'.mk ?_; intro y hy)) | refine F4 (fun h => ?_) fun h => ?_ | refine R1 ?_ | refine Q1 ?_ | fail)); all_goals (conv => whnf))
            refine Some'.mk (i + 1) ?_
            rw [hzs]
            ((repeat' ((conv => whnf) <;> first | exact True.intro | (guard_target =~ Fork _ _ _; first | refine F1 ?_ | refine F2 ?_ | refine F3 (fun h => ?_) fun h => ?_) | (guard_target =~ Ar _ _ _; first | refine A1 ?_ | refine A2 ?_ | refine A3 ?_) | (guard_target =~ Go.Eng.Ask _ _; first | refine K1 ?_) | (guard_target =~ All' _ _; first | (refine Y2 fun y he he' hy => ?_; (try dsimp only at he he' hy)) | (refine Y1 fun y he hy => ?_; (try with_reducible conv at he => (rhs; whnf)); (try dsimp only at he hy)) | (refine All'.mk ?_; intro y hy)) | refine F4 (fun h => ?_) fun h => ?_ | refine R1 ?_ | refine Q1 ?_ | fail)); all_goals (conv => whnf))
            refine AskL.mk ?_ ?_
            · rw [hbt]
              (dsimp only [conj]; repeat' apply And.intro) <;> first | rfl | omega
            exact G1
          · have hset : stepA (a1, a2, a3, a4, a5, a6, a7) w t = setX (a1, a2, a3, a4, a5, a6, a7) ((unhexL t).getLastD a7) := by
              unfold stepA setW
              (repeat first | rw [if_pos (by assumption)] | rw [if_neg (by assumption)])
              rfl
            refine Ask.mk ?_ ?_
            · constructor <;> omega
            ((repeat' ((conv => whnf) <;> first | exact True.intro | (guard_target =~ Fork _ _ _; first | refine F1 ?_ | refine F2 ?_ | refine F3 (fun h => ?_) fun h => ?_) | (guard_target =~ Ar _ _ _; first | refine A1 ?_ | refine A2 ?_ | refine A3 ?_) | (guard_target =~ AskL _ _; first | refine L1 ?_) | (guard_target =~ Go.Eng.Ask _ _; first | refine K1 ?_) | (guard_target =~ All' _ _; first | (refine Y2 fun y he he' hy => ?_; (try dsimp only at he he' hy)) | (refine Y1 fun y he hy => ?_; (try with_reducible conv at he => (rhs; whnf)); (try dsimp only at he hy))) | refine F4 (fun h => ?_) fun h => ?_ | refine R1 ?_ | refine Q1 ?_ | fail)); all_goals (conv => whnf))
            refine All'.mk ?_; rintro (y : ByteArray) hy
            obtain rfl : strOfNums t = y := by
              have hy : (strOfNums nm :: ts.map strOfNums)[i + 1]? = some y := hy
              rw [List.getElem?_cons_succ, List.getElem?_map, ht] at hy
              exact Option.some.inj hy
            ((repeat' ((conv => whnf) <;> first | exact True.intro | (guard_target =~ Fork _ _ _; first | refine F1 ?_ | refine F2 ?_ | refine F3 (fun h => ?_) fun h => ?_) | (guard_target =~ Ar _ _ _; first | refine A1 ?_ | refine A2 ?_ | refine A3 ?_) | (guard_target =~ AskL _ _; first | refine L1 ?_) | (guard_target =~ Go.Eng.Ask _ _; first | refine K1 ?_) | (guard_target =~ All' _ _; first | (refine Y2 fun y he he' hy => ?_; (try dsimp only at he he' hy)) | (refine Y1 fun y he hy => ?_; (try with_reducible conv at he => (rhs; whnf)); (try dsimp only at he hy)) | (refine All'.mk ?_; intro y hy)) | refine F4 (fun h => ?_) fun h => ?_ | refine R1 ?_ | refine Q1 ?_ | fail)); all_goals (conv => whnf))
            refine CallP.mk (C := unhexedC) (strOfNums t) ?_
            ((repeat' ((conv => whnf) <;> first | exact True.intro | (guard_target =~ Fork _ _ _; first | refine F1 ?_ | refine F2 ?_ | refine F3 (fun h => ?_) fun h => ?_) | (guard_target =~ Ar _ _ _; first | refine A1 ?_ | refine A2 ?_ | refine A3 ?_) | (guard_target =~ AskL _ _; first | refine L1 ?_) | (guard_target =~ Go.Eng.Ask _ _; first | refine K1 ?_) | (guard_target =~ All' _ _; first | (refine Y2 fun y he he' hy => ?_; (try dsimp only at he he' hy)) | (refine Y1 fun y he hy => ?_; (try with_reducible conv at he => (rhs; whnf)); (try dsimp only at he hy)) | (refine All'.mk ?_; intro y hy)) | refine F4 (fun h => ?_) fun h => ?_ | refine R1 ?_ | refine Q1 ?_ | fail)); all_goals (conv => whnf))
            have e5 : parL2 s (11 - ([(nameF (j : Nat)).2.length - i, 11 - j] : List Nat).getD 1 0) ((nameF ((11 - ([(nameF (j : Nat)).2.length - i, 11 - j] : List Nat).getD 1 0 : Nat) : Int)).2.length - ([(nameF (j : Nat)).2.length - i, 11 - j] : List Nat).headD 0) = parL2 s j i := by
              have h1 : 11 - ([(nameF (j : Nat)).2.length - i, 11 - j] : List Nat).getD 1 0 = j := hj11
              rw [h1]
              congr 1
              show (nameF (j : Nat)).2.length - ((nameF (j : Nat)).2.length - i) = i
              omega
            rw [e5]
            refine Some'.mk (0 : Nat) ?_
            dsimp only [parL2]
            rw [← ha, htd, hL, List.map_cons]
            ((repeat' ((conv => whnf) <;> first | exact True.intro | (guard_target =~ Fork _ _ _; first | refine F1 ?_ | refine F2 ?_ | refine F3 (fun h => ?_) fun h => ?_) | (guard_target =~ Ar _ _ _; first | refine A1 ?_ | refine A2 ?_ | refine A3 ?_) | (guard_target =~ Go.Eng.Ask _ _; first | refine K1 ?_) | (guard_target =~ All' _ _; first | (refine Y2 fun y he he' hy => ?_; (try dsimp only at he he' hy)) | (refine Y1 fun y he hy => ?_; (try with_reducible conv at he => (rhs; whnf)); (try dsimp only at he hy)) | (refine All'.mk ?_; intro y hy)) | refine F4 (fun h => ?_) fun h => ?_ | refine R1 ?_ | refine Q1 ?_ | fail)); all_goals (conv => whnf))
            refine AskL.mk ?_ ?_
            · rw [hbt]
              (dsimp only [conj]; repeat' apply And.intro) <;> first | rfl | omega
            ((repeat' ((conv => whnf) <;> first | exact True.intro | (guard_target =~ Fork _ _ _; first | refine F1 ?_ | refine F2 ?_ | refine F3 (fun h => ?_) fun h => ?_) | (guard_target =~ Ar _ _ _; first | refine A1 ?_ | refine A2 ?_ | refine A3 ?_) | (guard_target =~ AskL _ _; first | refine L1 ?_) | (guard_target =~ Go.Eng.Ask _ _; first | refine K1 ?_) | (guard_target =~ All' _ _; first | (refine Y2 fun y he he' hy => ?_; (try dsimp only at he he' hy)) | (refine Y1 fun y he hy => ?_; (try with_reducible conv at he => (rhs; whnf)); (try dsimp only at he hy)) | (refine All'.mk ?_; intro y hy)) | refine F4 (fun h => ?_) fun h => ?_ | refine R1 ?_ | refine Q1 ?_ | fail)); all_goals (conv => whnf))
            refine AllI.mk ?_
            rintro (m : Nat) hm
            have hm : m ≤ (unhexL t).length := hm
            by_cases hm2 : m = (unhexL t).length
            · subst hm2
              have hmt : (unhexL t).take (unhexL t).length = unhexL t := List.take_length
              rw [hmt]
              ((repeat' ((conv => whnf) <;> first | exact True.intro | (guard_target =~ Fork _ _ _; first | refine F1 ?_ | refine F2 ?_ | refine F3 (fun h => ?_) fun h => ?_) | (guard_target =~ Ar _ _ _; first | refine A1 ?_ | refine A2 ?_ | refine A3 ?_) | (guard_target =~ AskL _ _; first | refine L1 ?_) | (guard_target =~ Go.Eng.Ask _ _; first | refine K1 ?_) | (guard_target =~ All' _ _; first | (refine Y2 fun y he he' hy => ?_; (try dsimp only at he he' hy)) | (refine Y1 fun y he hy => ?_; (try with_reducible conv at he => (rhs; whnf)); (try dsimp only at he hy)) | (refine All'.mk ?_; intro y hy)) | refine F4 (fun h => ?_) fun h => ?_ | refine R1 ?_ | refine Q1 ?_ | fail)); all_goals (conv => whnf))
              refine Some'.mk (i + 1) ?_
              rw [hzs, show stepA (a1, a2, a3, a4, a5, a6, a7) (w, t).1 (w, t).2 = _ from hset]
              ((repeat' ((conv => whnf) <;> first | exact True.intro | (guard_target =~ Fork _ _ _; first | refine F1 ?_ | refine F2 ?_ | refine F3 (fun h => ?_) fun h => ?_) | (guard_target =~ Ar _ _ _; first | refine A1 ?_ | refine A2 ?_ | refine A3 ?_) | (guard_target =~ Go.Eng.Ask _ _; first | refine K1 ?_) | (guard_target =~ All' _ _; first | (refine Y2 fun y he he' hy => ?_; (try dsimp only at he he' hy)) | (refine Y1 fun y he hy => ?_; (try with_reducible conv at he => (rhs; whnf)); (try dsimp only at he hy)) | (refine All'.mk ?_; intro y hy)) | refine F4 (fun h => ?_) fun h => ?_ | refine R1 ?_ | refine Q1 ?_ | fail)); all_goals (conv => whnf))
              refine AskL.mk ?_ ?_
              · (dsimp only [conj]; repeat' apply And.intro) <;> first | rfl | omega
              exact G1
            · obtain ⟨c, hc⟩ : ∃ c, (unhexL t)[m]? = some c := ⟨_, List.getElem?_eq_getElem (by omega)⟩
              have hmt := take_get hc
              ((repeat' ((conv => whnf) <;> first | exact True.intro | (guard_target =~ Fork _ _ _; first | refine F1 ?_ | refine F2 ?_ | refine F3 (fun h => ?_) fun h => ?_) | (guard_target =~ Ar _ _ _; first | refine A1 ?_ | refine A2 ?_ | refine A3 ?_) | (guard_target =~ AskL _ _; first | refine L1 ?_) | (guard_target =~ Go.Eng.Ask _ _; first | refine K1 ?_) | (guard_target =~ All' _ _; first | (refine Y2 fun y he he' hy => ?_; (try dsimp only at he he' hy)) | (refine Y1 fun y he hy => ?_; (try with_reducible conv at he => (rhs; whnf)); (try dsimp only at he hy))) | refine F4 (fun h => ?_) fun h => ?_ | refine R1 ?_ | refine Q1 ?_ | fail)); all_goals (conv => whnf))
              refine All'.mk ?_; rintro (c' : Int) hc'
              obtain rfl : c = c' := Option.some.inj (hc.symm.trans hc')
              ((repeat' ((conv => whnf) <;> first | exact True.intro | (guard_target =~ Fork _ _ _; first | refine F1 ?_ | refine F2 ?_ | refine F3 (fun h => ?_) fun h => ?_) | (guard_target =~ Ar _ _ _; first | refine A1 ?_ | refine A2 ?_ | refine A3 ?_) | (guard_target =~ AskL _ _; first | refine L1 ?_) | (guard_target =~ Go.Eng.Ask _ _; first | refine K1 ?_) | (guard_target =~ All' _ _; first | (refine Y2 fun y he he' hy => ?_; (try dsimp only at he he' hy)) | (refine Y1 fun y he hy => ?_; (try with_reducible conv at he => (rhs; whnf)); (try dsimp only at he hy)) | (refine All'.mk ?_; intro y hy)) | refine F4 (fun h => ?_) fun h => ?_ | refine R1 ?_ | refine Q1 ?_ | fail)); all_goals (conv => whnf))
              refine Some'.mk (m + 1) ?_
              rw [hmt]
              ((repeat' ((conv => whnf) <;> first | exact True.intro | (guard_target =~ Fork _ _ _; first | refine F1 ?_ | refine F2 ?_ | refine F3 (fun h => ?_) fun h => ?_) | (guard_target =~ Ar _ _ _; first | refine A1 ?_ | refine A2 ?_ | refine A3 ?_) | (guard_target =~ Go.Eng.Ask _ _; first | refine K1 ?_) | (guard_target =~ All' _ _; first | (refine Y2 fun y he he' hy => ?_; (try dsimp only at he he' hy)) | (refine Y1 fun y he hy => ?_; (try with_reducible conv at he => (rhs; whnf)); (try dsimp only at he hy)) | (refine All'.mk ?_; intro y hy)) | refine F4 (fun h => ?_) fun h => ?_ | refine R1 ?_ | refine Q1 ?_ | fail)); all_goals (conv => whnf))
              refine AskL.mk ?_ ?_
              · (dsimp only [conj]; repeat' apply And.intro) <;> first | rfl | omega | simp
              exact G1
      · ((repeat' ((conv => whnf) <;> first | exact True.intro | (guard_target =~ Fork _ _ _; first | refine F1 ?_ | refine F2 ?_ | refine F3 (fun h => ?_) fun h => ?_) | (guard_target =~ Ar _ _ _; first | refine A1 ?_ | refine A2 ?_ | refine A3 ?_) | (guard_target =~ AskL _ _; first | refine L1 ?_) | (guard_target =~ Go.Eng.Ask _ _; first | refine K1 ?_) | (guard_target =~ All' _ _; first | (refine Y2 fun y he he' hy => ?_; (try dsimp only at he he' hy)) | (refine Y1 fun y he hy => ?_; (try with_reducible conv at he => (rhs; whnf)); (try dsimp only at he hy)) | (refine All'.mk ?_; intro y hy)) | refine F4 (fun h => ?_) fun h => ?_ | refine R1 ?_ | refine Q1 ?_ | fail)); all_goals (conv => whnf))
        refine CallP.mk (C := nameC) (j : Nat) ?_
        ((repeat' ((conv => whnf) <;> first | exact True.intro | (guard_target =~ Fork _ _ _; first | refine F1 ?_ | refine F2 ?_ | refine F3 (fun h => ?_) fun h => ?_) | (guard_target =~ Ar _ _ _; first | refine A1 ?_ | refine A2 ?_ | refine A3 ?_) | (guard_target =~ AskL _ _; first | refine L1 ?_) | (guard_target =~ Go.Eng.Ask _ _; first | refine K1 ?_) | (guard_target =~ All' _ _; first | (refine Y2 fun y he he' hy => ?_; (try dsimp only at he he' hy)) | (refine Y1 fun y he hy => ?_; (try with_reducible conv at he => (rhs; whnf)); (try dsimp only at he hy))) | refine F4 (fun h => ?_) fun h => ?_ | refine R1 ?_ | refine Q1 ?_ | fail)); all_goals (conv => whnf))
        refine All'.mk ?_; rintro (y : ByteArray) hy
        obtain rfl : strOfNums nm = y := Option.some.inj hy
        have lm := k1
        ((repeat' ((conv => whnf) <;> first | exact True.intro | (guard_target =~ Fork _ _ _; first | refine F1 ?_ | refine F2 ?_ | refine F3 (fun h => ?_) fun h => ?_) | (guard_target =~ Ar _ _ _; first | refine A1 ?_ | refine A2 ?_ | refine A3 ?_) | (guard_target =~ AskL _ _; first | refine L1 ?_) | (guard_target =~ Go.Eng.Ask _ _; first | refine K1 ?_) | (guard_target =~ All' _ _; first | (refine Y2 fun y he he' hy => ?_; (try dsimp only at he he' hy)) | (refine Y1 fun y he hy => ?_; (try with_reducible conv at he => (rhs; whnf)); (try dsimp only at he hy)) | (refine All'.mk ?_; intro y hy)) | refine F4 (fun h => ?_) fun h => ?_ | refine R1 ?_ | refine Q1 ?_ | fail)); all_goals (conv => whnf))
        refine Some'.mk (j + 1) ?_
        ((repeat' ((conv => whnf) <;> first | exact True.intro | (guard_target =~ Fork _ _ _; first | refine F1 ?_ | refine F2 ?_ | refine F3 (fun h => ?_) fun h => ?_) | (guard_target =~ Ar _ _ _; first | refine A1 ?_ | refine A2 ?_ | refine A3 ?_) | (guard_target =~ AskL _ _; first | refine L1 ?_) | (guard_target =~ Go.Eng.Ask _ _; first | refine K1 ?_) | (guard_target =~ All' _ _; first | (refine Y2 fun y he he' hy => ?_; (try dsimp only at he he' hy)) | (refine Y1 fun y he hy => ?_; (try with_reducible conv at he => (rhs; whnf)); (try dsimp only at he hy)) | (refine All'.mk ?_; intro y hy)) | refine F4 (fun h => ?_) fun h => ?_ | refine R1 ?_ | refine Q1 ?_ | fail)); all_goals (conv => whnf))
        refine Ask.mk ⟨by omega, hnext (fun hh => hA2 hh.2)⟩ ?_
        exact G1
    · have k1 : ((strOfNums nm).toList == (nameF (j : Nat)).1.toList) = false := by
        rw [str_beq]
        exact decide_eq_false (fun hh => hA1 (by rw [← hh, bytes_str hwo.1]))
      ((repeat' ((conv => whnf) <;> first | exact True.intro | (guard_target =~ Fork _ _ _; first | refine F1 ?_ | refine F2 ?_ | refine F3 (fun h => ?_) fun h => ?_) | (guard_target =~ Ar _ _ _; first | refine A1 ?_ | refine A2 ?_ | refine A3 ?_) | (guard_target =~ AskL _ _; first | refine L1 ?_) | (guard_target =~ Go.Eng.Ask _ _; first | refine K1 ?_) | (guard_target =~ All' _ _; first | (refine Y2 fun y he he' hy => ?_; (try dsimp only at he he' hy)) | (refine Y1 fun y he hy => ?_; (try with_reducible conv at he => (rhs; whnf)); (try dsimp only at he hy)) | (refine All'.mk ?_; intro y hy)) | refine F4 (fun h => ?_) fun h => ?_ | refine R1 ?_ | refine Q1 ?_ | fail)); all_goals (conv => whnf))
      refine CallP.mk (C := nameC) (j : Nat) ?_
      ((repeat' ((conv => whnf) <;> first | exact True.intro | (guard_target =~ Fork _ _ _; first | refine F1 ?_ | refine F2 ?_ | refine F3 (fun h => ?_) fun h => ?_) | (guard_target =~ Ar _ _ _; first | refine A1 ?_ | refine A2 ?_ | refine A3 ?_) | (guard_target =~ AskL _ _; first | refine L1 ?_) | (guard_target =~ Go.Eng.Ask _ _; first | refine K1 ?_) | (guard_target =~ All' _ _; first | (refine Y2 fun y he he' hy => ?_; (try dsimp only at he he' hy)) | (refine Y1 fun y he hy => ?_; (try with_reducible conv at he => (rhs; whnf)); (try dsimp only at he hy))) | refine F4 (fun h => ?_) fun h => ?_ | refine R1 ?_ | refine Q1 ?_ | fail)); all_goals (conv => whnf))
      refine All'.mk ?_; rintro (y : ByteArray) hy
      obtain rfl : strOfNums nm = y := Option.some.inj hy
      have lm := k1
      ((repeat' ((conv => whnf) <;> first | exact True.intro | (guard_target =~ Fork _ _ _; first | refine F1 ?_ | refine F2 ?_ | refine F3 (fun h => ?_) fun h => ?_) | (guard_target =~ Ar _ _ _; first | refine A1 ?_ | refine A2 ?_ | refine A3 ?_) | (guard_target =~ AskL _ _; first | refine L1 ?_) | (guard_target =~ Go.Eng.Ask _ _; first | refine K1 ?_) | (guard_target =~ All' _ _; first | (refine Y2 fun y he he' hy => ?_; (try dsimp only at he he' hy)) | (refine Y1 fun y he hy => ?_; (try with_reducible conv at he => (rhs; whnf)); (try dsimp only at he hy)) | (refine All'.mk ?_; intro y hy)) | refine F4 (fun h => ?_) fun h => ?_ | refine R1 ?_ | refine Q1 ?_ | fail)); all_goals (conv => whnf))
      refine Some'.mk (j + 1) ?_
      ((repeat' ((conv => whnf) <;> first | exact True.intro | (guard_target =~ Fork _ _ _; first | refine F1 ?_ | refine F2 ?_ | refine F3 (fun h => ?_) fun h => ?_) | (guard_target =~ Ar _ _ _; first | refine A1 ?_ | refine A2 ?_ | refine A3 ?_) | (guard_target =~ AskL _ _; first | refine L1 ?_) | (guard_target =~ Go.Eng.Ask _ _; first | refine K1 ?_) | (guard_target =~ All' _ _; first | (refine Y2 fun y he he' hy => ?_; (try dsimp only at he he' hy)) | (refine Y1 fun y he hy => ?_; (try with_reducible conv at he => (rhs; whnf)); (try dsimp only at he hy)) | (refine All'.mk ?_; intro y hy)) | refine F4 (fun h => ?_) fun h => ?_ | refine R1 ?_ | refine Q1 ?_ | fail)); all_goals (conv => whnf))
      refine Ask.mk ⟨by omega, hnext (fun hh => hA1 hh.1)⟩ ?_
      exact G1
end Go.Proofs.YtghejeecanohoaaDoor
