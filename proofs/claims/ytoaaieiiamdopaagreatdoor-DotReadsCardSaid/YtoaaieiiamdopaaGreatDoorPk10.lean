/- Parts of the proof, one behind the other (TxtF, TxtG, EyeA, EyeB, EyeC). -/
import Derived.Test.YtoaaieiiamdopaaGreatDoorPk9
set_option linter.unusedVariables false
set_option linter.unusedSimpArgs false
set_option linter.unusedSectionVars false
set_option linter.unusedVariables false
set_option linter.unusedSimpArgs false
set_option maxRecDepth 100000
namespace Go.Proofs.YtoaaieiiamdopaaGreatDoor
open Go.Eng
/-- A word as the reference reads it. -/
def refW2 (a : List Int) : List (List Int) → Option Run
  | [f] => if numOk a = true ∧ numOk f = true then some (numV a, numV f, numV f) else none
  | [f, t] => if (numOk a = true ∧ numOk f = true) ∧ numOk t = true ∧ numV t ≠ numV f then some (numV a, numV f, numV t) else none
  | _ => none
def refW1 : List (List Int) → Option Run
  | [a, b] => refW2 a (splitL 45 b)
  | _ => none
def refW (w : List Int) : Option Run := refW1 (splitL 58 w)
theorem refW_back {w : List Int} {r : Run} (h : refW w = some r) (hr : runP r) : runW r = w := by
  unfold refW at h
  obtain ⟨m, f', t'⟩ := r
  obtain ⟨q1, q2, q3, q4, q5⟩ : 0 ≤ m ∧ m ≤ 7 ∧ 1 ≤ f' ∧ f' ≤ t' ∧ t' ≤ 1099511627776 := hr
  rcases hs : splitL 58 w with _ | ⟨a, _ | ⟨b, _ | ⟨c, l⟩⟩⟩
  · rw [hs] at h; cases h
  · rw [hs] at h; cases h
  · rw [hs] at h
    have hw := split_two 58 w a b hs
    have h : refW2 a (splitL 45 b) = some (m, f', t') := h
    rcases hb : splitL 45 b with _ | ⟨f, _ | ⟨t, _ | ⟨c, l⟩⟩⟩
    · rw [hb] at h; cases h
    · rw [hb] at h
      have h : (if numOk a = true ∧ numOk f = true then some (numV a, numV f, numV f) else none) = some (m, f', t') := h
      by_cases hk : numOk a = true ∧ numOk f = true
      · rw [if_pos hk] at h
        obtain ⟨e1, e2, e3⟩ : numV a = m ∧ numV f = f' ∧ numV f = t' := by simpa using h
        have ha := num_canon hk.1
        have hf := num_canon hk.2
        have hbf := split_two.split_one 45 b f hb
        have hn : ¬ f' < t' := by omega
        show decL m.toNat ++ [58] ++ decL f'.toNat ++ (if f' < t' then [45] ++ decL t'.toNat else []) = w
        rw [if_neg hn, List.append_nil, ← e1, ← e2, ha.2, hf.2, hw, hbf]
      · rw [if_neg hk] at h; cases h
    · rw [hb] at h
      have h : (if (numOk a = true ∧ numOk f = true) ∧ numOk t = true ∧ numV t ≠ numV f then some (numV a, numV f, numV t) else none) = some (m, f', t') := h
      by_cases hk : (numOk a = true ∧ numOk f = true) ∧ numOk t = true ∧ numV t ≠ numV f
      · rw [if_pos hk] at h
        obtain ⟨e1, e2, e3⟩ : numV a = m ∧ numV f = f' ∧ numV t = t' := by simpa using h
        have ha := num_canon hk.1.1
        have hf := num_canon hk.1.2
        have ht := num_canon hk.2.1
        have hbf := split_two 45 b f t hb
        have hne := hk.2.2
        have hn : f' < t' := by omega
        show decL m.toNat ++ [58] ++ decL f'.toNat ++ (if f' < t' then [45] ++ decL t'.toNat else []) = w
        rw [if_pos hn, ← e1, ← e2, ← e3, ha.2, hf.2, ht.2, hw, hbf]
        simp only [List.append_assoc]
      · rw [if_neg hk] at h; cases h
    · rw [hb] at h; cases h
  · rw [hs] at h; cases h
theorem refW_of {r : Run} (h : runP r) : refW (runW r) = some r := by
  obtain ⟨m, f, t⟩ := r
  obtain ⟨q1, q2, q3, q4, q5⟩ : 0 ≤ m ∧ m ≤ 7 ∧ 1 ≤ f ∧ f ≤ t ∧ t ≤ 1099511627776 := h
  have om := numOk_dec (n := m.toNat) (by omega)
  have of := numOk_dec (n := f.toNat) (by omega)
  have ot := numOk_dec (n := t.toNat) (by omega)
  have vm := numV_dec m.toNat
  have vf := numV_dec f.toNat
  have vt := numV_dec t.toNat
  have e1 : runW (m, f, t) = decL m.toNat ++ 58 :: (decL f.toNat ++ (if f < t then [45] ++ decL t.toNat else [])) := by
    unfold runW; simp only [List.append_assoc, List.cons_append, List.nil_append]
  unfold refW
  by_cases hft : f < t
  · rw [if_pos hft] at e1
    have hfree : (58 : Int) ∉ decL f.toNat ++ ([45] ++ decL t.toNat) := by
      simp only [List.mem_append, List.mem_singleton, not_or]
      exact ⟨dec_free (by decide), by decide, dec_free (by decide)⟩
    rw [e1, splitL_app _ _ (dec_free (by decide)), splitL_free hfree]
    show refW2 _ (splitL 45 (decL f.toNat ++ 45 :: decL t.toNat)) = _
    rw [splitL_app _ _ (dec_free (by decide)), splitL_free (dec_free (by decide))]
    show (if (numOk (decL m.toNat) = true ∧ numOk (decL f.toNat) = true) ∧ numOk (decL t.toNat) = true ∧ numV (decL t.toNat) ≠ numV (decL f.toNat) then some (numV (decL m.toNat), numV (decL f.toNat), numV (decL t.toNat)) else none) = _
    rw [if_pos ⟨⟨om, of⟩, ot, by rw [vt, vf]; omega⟩, vm, vf, vt]
    congr 1
    have a1 : ((m.toNat : Nat) : Int) = m := by omega
    have a2 : ((f.toNat : Nat) : Int) = f := by omega
    have a3 : ((t.toNat : Nat) : Int) = t := by omega
    rw [a1, a2, a3]
  · rw [if_neg hft, List.append_nil] at e1
    rw [e1, splitL_app _ _ (dec_free (by decide)), splitL_free (dec_free (by decide))]
    show refW2 _ (splitL 45 (decL f.toNat)) = _
    rw [splitL_free (dec_free (by decide))]
    show (if numOk (decL m.toNat) = true ∧ numOk (decL f.toNat) = true then some (numV (decL m.toNat), numV (decL f.toNat), numV (decL f.toNat)) else none) = _
    rw [if_pos ⟨om, of⟩, vm, vf]
    congr 1
    have a1 : ((m.toNat : Nat) : Int) = m := by omega
    have a2 : ((f.toNat : Nat) : Int) = f := by omega
    have a3 : f = t := by omega
    rw [a1, a2, ← a3]
theorem parsed_words {s : ByteArray} (h : parsedOk s) (h1 : ¬ s = ⟨#[45]⟩) : ∃ c, rightB c = true ∧ splitL 32 (bytesL s) = c.map runW ∧ parse0 s = c := by
  obtain ⟨h2, h3⟩ : s ≠ ⟨#[]⟩ ∧ strOfNums (textL (parse0 s)) = s := h.elim (fun e => absurd e h1) id
  have hr : rightB (parse0 s) = true := by
    cases hr : rightB (parse0 s) with
    | true => rfl
    | false =>
      have : textL (parse0 s) = [] := by unfold textL; rw [hr]; rfl
      rw [this] at h3
      exact absurd h3.symm h2
  have h0 : parse0 s ≠ [] := fun e => by
    rw [e] at h3; exact h1 h3.symm
  refine ⟨parse0 s, hr, ?_, rfl⟩
  have ht : textL (parse0 s) = spc ((parse0 s).map runW) := by unfold textL; rw [hr, if_neg h0]; rfl
  have hok : okB (spc ((parse0 s).map runW)) := okB_spc _ (fun w hw => by obtain ⟨r, _, rfl⟩ := List.mem_map.1 hw; exact okB_runW r)
  conv => lhs; rw [← h3, ht, bytes_str hok]
  cases hc : parse0 s with
  | nil => exact absurd hc h0
  | cons r c =>
    rw [List.map_cons]
    exact split_spc _ _ (runW_free r) (fun t ht => by obtain ⟨r, _, rfl⟩ := List.mem_map.1 ht; exact runW_free r)
theorem words_parsed {s : ByteArray} {c : List Run} (hr : rightB c = true) (h : splitL 32 (bytesL s) = c.map runW) : parsedOk s ∧ parse0 s = c ∧ ¬ s = ⟨#[45]⟩ := by
  have h0 : c ≠ [] := fun e => by rw [e] at h; exact splitL_ne _ _ h
  have ht : textL c = spc (c.map runW) := by unfold textL; rw [hr, if_neg h0]; rfl
  have hs : strOfNums (textL c) = s := by rw [ht, ← h, spc_split, str_bytesL]
  have hp : parse0 s = c := by rw [← hs]; exact parse0_text hr h0
  have hb : bytesL s ≠ [] := fun e => by
    rw [e] at h
    cases c with
    | nil => exact h0 rfl
    | cons r c =>
      rw [List.map_cons] at h
      have : [] = runW r := (List.cons.inj h).1
      exact runW_ne r this.symm
  refine ⟨.inr ⟨fun e => hb (by rw [e]; rfl), by rw [hp, hs]⟩, hp, fun e => ?_⟩
  rw [e] at h
  have e2 : splitL 32 (bytesL ⟨#[45]⟩) = [[45]] := rfl
  rw [e2] at h
  cases c with
  | nil => exact h0 rfl
  | cons r c =>
    rw [List.map_cons] at h
    have h5 : [45] = runW r := (List.cons.inj h).1
    have h6 : (58 : Int) ∈ runW r := by unfold runW; simp
    rw [← h5] at h6
    simp at h6
/-- A word that the reference does not read. -/
theorem not_parsed {s : ByteArray} {w : List Int} (h1 : ¬ s = ⟨#[45]⟩) (hw : w ∈ splitL 32 (bytesL s)) (h : refW w = none) : ¬ parsedOk s := fun hp => by
  obtain ⟨c, hr, hc, -⟩ := parsed_words hp h1
  rw [hc] at hw
  obtain ⟨r, hm, rfl⟩ := List.mem_map.1 hw
  obtain ⟨k, hk⟩ := List.getElem?_of_mem hm
  rw [refW_of (right_runs hr hk)] at h; cases h
theorem refW_all {c : List Run} (hr : rightB c = true) {ws : List (List Int)} (h : ws.map refW = c.map some) : ws = c.map runW := by
  refine List.ext_getElem? fun i => ?_
  have e := congrArg (·[i]?) h
  simp only [List.getElem?_map] at e ⊢
  cases hw : ws[i]? with
  | none =>
    rw [hw] at e
    cases hc : c[i]? with
    | none => rfl
    | some r => rw [hc] at e; cases e
  | some w =>
    rw [hw] at e
    cases hc : c[i]? with
    | none => rw [hc] at e; cases e
    | some r =>
      rw [hc] at e
      have e : refW w = some r := Option.some.inj e
      have := refW_back e (right_runs hr hc)
      rw [← this]; rfl
theorem ref_parsed {s : ByteArray} {c : List Run} (h1 : ¬ s = ⟨#[45]⟩) (h : (splitL 32 (bytesL s)).map refW = c.map some) : (rightB c = true → parsedOk s ∧ parsedL s = c) ∧ (rightB c = false → ¬ parsedOk s) := by
  constructor
  · intro hr
    obtain ⟨k1, k2, k3⟩ := words_parsed hr (refW_all hr h)
    exact ⟨k1, by rw [parsedL_yes h1 k1, k2]⟩
  · intro hr hp
    obtain ⟨c', hr', hc', -⟩ := parsed_words hp h1
    have : (splitL 32 (bytesL s)).map refW = c'.map some := by
      rw [hc', List.map_map]
      refine List.map_congr_left fun r hm => ?_
      obtain ⟨k, hk⟩ := List.getElem?_of_mem hm
      exact refW_of (right_runs hr' hk)
    rw [h] at this
    have : c = c' := by
      have := congrArg (List.map (fun o : Option Run => o.getD (0, 0, 0))) this
      simpa [List.map_map, Function.comp_def] using this
    rw [this, hr'] at hr; cases hr
end Go.Proofs.YtoaaieiiamdopaaGreatDoor

set_option linter.unusedVariables false
set_option linter.unusedSimpArgs false
set_option maxRecDepth 100000
set_option maxHeartbeats 4000000
namespace Go.Proofs.YtoaaieiiamdopaaGreatDoor
open Go.Eng
/-- A string's parts. -/
@[reducible] def prt (c : Int) (s : ByteArray) : List ByteArray := (splitL c (bytesL s)).map strOfNums
@[reducible] def rwords (s : ByteArray) : List ByteArray := prt 32 s
@[reducible] def rparseL (s : ByteArray) : LA := {
  X := List Run
  pre := fun c => c.length ≤ (rwords s).length ∧ ((splitL 32 (bytesL s)).take c.length).map refW = c.map some
  mu := fun c => (rwords s).length - c.length
  T := fun c => [(0, .v (.string s)), (4, .sl 2), (19, .ro true .str (rwords s)), (20, .v (.int .i64 (rwords s).length)), (21, .v (.int .i64 c.length))]
  M := fun c => [(2, .row 57 runT c)] }
theorem refW2_bad {a f : List Int} (h : ¬ (numOk a = true ∧ numOk f = true)) : ∀ rest : List (List Int), refW2 a (f :: rest) = none
  | [] => if_neg h
  | [t] => if_neg (fun hh => h hh.1)
  | _ :: _ :: _ => rfl
theorem refW_two {v a b : List Int} (h : splitL 58 v = [a, b]) : refW v = refW2 a (splitL 45 b) := by unfold refW; rw [h]; rfl
theorem knownT6 : Known Tryz.prog (gOf [(57, rSplitC), (58, rNumTC), (11, drightC)]) :=
  known_cons ⟨rSplit_ok, Tryz.call57⟩ (known_cons ⟨rNumT_ok, Tryz.call58⟩ (known_cons ⟨rdright_ok, Tryz.call11⟩ (known_nil _)))
theorem rparse_ok : dparseC.ok Tryz.prog 17 := by
  refine ok_of_vc (An := fun s => anOf [(0, .loop (rparseL s))]) knownT6 mo Tryz.func17 (by kernel_rfl) (by kernel_rfl) (fun _ _ => trivial) (fun (s : ByteArray) hs => ?_)
  have hs : s.size ≤ 100000 := hs
  by_cases h1 : s = ⟨#[45]⟩
  · subst h1
    have k1 : parsedB ⟨#[45]⟩ = true := parsedB_true (.inl rfl)
    have k2 : parsedL ⟨#[45]⟩ = [] := if_pos rfl
    have lm := And.intro k1 k2
    exact G1
  · have g1 : ¬ s.toList = (⟨#[45]⟩ : ByteArray).toList := fun h => h1 (str_eq.1 h)
    have hwl : (rwords s).length ≤ 100001 := by
      have := splitL_le 32 (bytesL s)
      rw [bytesL_length] at this
      rw [List.length_map]; omega
    ((repeat' ((conv => whnf) <;> first | exact True.intro | (guard_target =~ Fork _ _ _; first | refine F1 ?_ | refine F2 ?_ | refine F3 (fun h => ?_) fun h => ?_) | (guard_target =~ Ar _ _ _; first | refine A1 ?_ | refine A2 ?_ | refine A3 ?_) | (guard_target =~ AskL _ _; first | refine L1 ?_) | (guard_target =~ Go.Eng.Ask _ _; first | refine K1 ?_) | (guard_target =~ All' _ _; first | (refine Y2 fun y he he' hy => ?_; (try dsimp only at he he' hy)) | (refine Y1 fun y he hy => ?_; (try with_reducible conv at he => (rhs; whnf)); (try dsimp only at he hy)) | (refine All'.mk ?_; intro y hy)) | refine F4 (fun h => ?_) fun h => ?_ | refine R1 ?_ | refine Q1 ?_ | fail)); all_goals (conv => whnf))
    refine CallP.mk (C := rSplitC) ⟨s, 32⟩ ?_
    ((repeat' ((conv => whnf) <;> first | exact True.intro | (guard_target =~ Fork _ _ _; first | refine F1 ?_ | refine F2 ?_ | refine F3 (fun h => ?_) fun h => ?_) | (guard_target =~ Ar _ _ _; first | refine A1 ?_ | refine A2 ?_ | refine A3 ?_) | (guard_target =~ AskL _ _; first | refine L1 ?_) | (guard_target =~ Go.Eng.Ask _ _; first | refine K1 ?_) | (guard_target =~ All' _ _; first | (refine Y2 fun y he he' hy => ?_; (try dsimp only at he he' hy)) | (refine Y1 fun y he hy => ?_; (try with_reducible conv at he => (rhs; whnf)); (try dsimp only at he hy)) | (refine All'.mk ?_; intro y hy)) | refine F4 (fun h => ?_) fun h => ?_ | refine R1 ?_ | refine Q1 ?_ | fail)); all_goals (conv => whnf))
    refine Some'.mk ([] : List Run) ?_
    ((repeat' ((conv => whnf) <;> first | exact True.intro | (guard_target =~ Fork _ _ _; first | refine F1 ?_ | refine F2 ?_ | refine F3 (fun h => ?_) fun h => ?_) | (guard_target =~ Ar _ _ _; first | refine A1 ?_ | refine A2 ?_ | refine A3 ?_) | (guard_target =~ AskL _ _; first | refine L1 ?_) | (guard_target =~ Go.Eng.Ask _ _; first | refine K1 ?_) | (guard_target =~ All' _ _; first | (refine Y2 fun y he he' hy => ?_; (try dsimp only at he he' hy)) | (refine Y1 fun y he hy => ?_; (try with_reducible conv at he => (rhs; whnf)); (try dsimp only at he hy)) | (refine All'.mk ?_; intro y hy)) | refine F4 (fun h => ?_) fun h => ?_ | refine R1 ?_ | refine Q1 ?_ | fail)); all_goals (conv => whnf))
    refine Ask.mk ⟨Nat.zero_le _, rfl⟩ ?_
    refine AllI.mk ?_
    rintro (c : List Run) ⟨hcl, hpre⟩
    have hcl : c.length ≤ (rwords s).length := hcl
    have hpre : ((splitL 32 (bytesL s)).take c.length).map refW = c.map some := hpre
    by_cases hie : c.length = (rwords s).length
    · have hfull : (splitL 32 (bytesL s)).map refW = c.map some := by
        rw [hie, List.length_map, List.take_length] at hpre; exact hpre
      obtain ⟨p1, p2⟩ := ref_parsed h1 hfull
      have hc2 : c.length ≤ 274877906944 := by omega
      cases hr : rightB c with
      | true =>
        obtain ⟨k0, k2⟩ := p1 hr
        have k1 := parsedB_true k0
        clear hpre p1 p2 hfull
        have lm := And.intro hr (And.intro k1 k2)
        ((repeat' ((conv => whnf) <;> first | exact True.intro | (guard_target =~ Fork _ _ _; first | refine F1 ?_ | refine F2 ?_ | refine F3 (fun h => ?_) fun h => ?_) | (guard_target =~ Ar _ _ _; first | refine A1 ?_ | refine A2 ?_ | refine A3 ?_) | (guard_target =~ AskL _ _; first | refine L1 ?_) | (guard_target =~ Go.Eng.Ask _ _; first | refine K1 ?_) | (guard_target =~ All' _ _; first | (refine Y2 fun y he he' hy => ?_; (try dsimp only at he he' hy)) | (refine Y1 fun y he hy => ?_; (try with_reducible conv at he => (rhs; whnf)); (try dsimp only at he hy)) | (refine All'.mk ?_; intro y hy)) | refine F4 (fun h => ?_) fun h => ?_ | refine R1 ?_ | refine Q1 ?_ | fail)); all_goals (conv => whnf))
        refine CallP.mk (C := drightC) c ?_
        exact G1
      | false =>
        have k0 := p2 hr
        have k1 := parsedB_false k0
        have k2 := parsedL_no k0
        clear hpre p1 p2 hfull
        have lm := And.intro hr (And.intro k1 k2)
        ((repeat' ((conv => whnf) <;> first | exact True.intro | (guard_target =~ Fork _ _ _; first | refine F1 ?_ | refine F2 ?_ | refine F3 (fun h => ?_) fun h => ?_) | (guard_target =~ Ar _ _ _; first | refine A1 ?_ | refine A2 ?_ | refine A3 ?_) | (guard_target =~ AskL _ _; first | refine L1 ?_) | (guard_target =~ Go.Eng.Ask _ _; first | refine K1 ?_) | (guard_target =~ All' _ _; first | (refine Y2 fun y he he' hy => ?_; (try dsimp only at he he' hy)) | (refine Y1 fun y he hy => ?_; (try with_reducible conv at he => (rhs; whnf)); (try dsimp only at he hy)) | (refine All'.mk ?_; intro y hy)) | refine F4 (fun h => ?_) fun h => ?_ | refine R1 ?_ | refine Q1 ?_ | fail)); all_goals (conv => whnf))
        refine CallP.mk (C := drightC) c ?_
        exact G1
    · have hlt : c.length < (splitL 32 (bytesL s)).length := by rw [List.length_map] at hie hcl; omega
      obtain ⟨v, hv⟩ : ∃ e, (splitL 32 (bytesL s))[c.length]? = some e := ⟨_, List.getElem?_eq_getElem hlt⟩
      have hce : (rwords s)[c.length]? = some (strOfNums v) := by rw [List.getElem?_map, hv]; rfl
      have hvm := List.mem_of_getElem? hv
      have hvz : v.length ≤ 100000 := by
        have := (splitL_mem 32 (bytesL s) v hvm).1
        rw [bytesL_length] at this; omega
      have hvo : okB v := fun x hx => bytesL_ok s x ((splitL_mem 32 (bytesL s) v hvm).2 x hx).1
      have hvb : bytesL (strOfNums v) = v := bytes_str hvo
      have hsz : (strOfNums v).size ≤ 100000000000 := by rw [str_size]; omega
      rcases h58 : splitL 58 v with _ | ⟨a, _ | ⟨b, _ | ⟨x, l⟩⟩⟩
      · have hno : refW v = none := by unfold refW; rw [h58]; rfl
        have k0 : ¬ parsedOk s := not_parsed h1 hvm hno
        have k1 := parsedB_false k0
        have k2 := parsedL_no k0
        have hln : ((splitL 58 (bytesL (strOfNums v))).map strOfNums).length = 0 := by rw [List.length_map, hvb, h58]; rfl
        ((repeat' ((conv => whnf) <;> first | exact True.intro | (guard_target =~ Fork _ _ _; first | refine F1 ?_ | refine F2 ?_ | refine F3 (fun h => ?_) fun h => ?_) | (guard_target =~ Ar _ _ _; first | refine A1 ?_ | refine A2 ?_ | refine A3 ?_) | (guard_target =~ AskL _ _; first | refine L1 ?_) | (guard_target =~ Go.Eng.Ask _ _; first | refine K1 ?_) | (guard_target =~ All' _ _; first | (refine Y2 fun y he he' hy => ?_; (try dsimp only at he he' hy)) | (refine Y1 fun y he hy => ?_; (try with_reducible conv at he => (rhs; whnf)); (try dsimp only at he hy))) | refine F4 (fun h => ?_) fun h => ?_ | refine R1 ?_ | refine Q1 ?_ | fail)); all_goals (conv => whnf))
        refine All'.mk ?_; rintro (e' : ByteArray) he'
        obtain rfl : strOfNums v = e' := Option.some.inj (hce.symm.trans he')
        clear he'
        ((repeat' ((conv => whnf) <;> first | exact True.intro | (guard_target =~ Fork _ _ _; first | refine F1 ?_ | refine F2 ?_ | refine F3 (fun h => ?_) fun h => ?_) | (guard_target =~ Ar _ _ _; first | refine A1 ?_ | refine A2 ?_ | refine A3 ?_) | (guard_target =~ AskL _ _; first | refine L1 ?_) | (guard_target =~ Go.Eng.Ask _ _; first | refine K1 ?_) | (guard_target =~ All' _ _; first | (refine Y2 fun y he he' hy => ?_; (try dsimp only at he he' hy)) | (refine Y1 fun y he hy => ?_; (try with_reducible conv at he => (rhs; whnf)); (try dsimp only at he hy)) | (refine All'.mk ?_; intro y hy)) | refine F4 (fun h => ?_) fun h => ?_ | refine R1 ?_ | refine Q1 ?_ | fail)); all_goals (conv => whnf))
        refine CallP.mk (C := rSplitC) ⟨strOfNums v, 58⟩ ?_
        exact G1

      · have hno : refW v = none := by unfold refW; rw [h58]; rfl
        have k0 : ¬ parsedOk s := not_parsed h1 hvm hno
        have k1 := parsedB_false k0
        have k2 := parsedL_no k0
        have hln : ((splitL 58 (bytesL (strOfNums v))).map strOfNums).length = 1 := by rw [List.length_map, hvb, h58]; rfl
        ((repeat' ((conv => whnf) <;> first | exact True.intro | (guard_target =~ Fork _ _ _; first | refine F1 ?_ | refine F2 ?_ | refine F3 (fun h => ?_) fun h => ?_) | (guard_target =~ Ar _ _ _; first | refine A1 ?_ | refine A2 ?_ | refine A3 ?_) | (guard_target =~ AskL _ _; first | refine L1 ?_) | (guard_target =~ Go.Eng.Ask _ _; first | refine K1 ?_) | (guard_target =~ All' _ _; first | (refine Y2 fun y he he' hy => ?_; (try dsimp only at he he' hy)) | (refine Y1 fun y he hy => ?_; (try with_reducible conv at he => (rhs; whnf)); (try dsimp only at he hy))) | refine F4 (fun h => ?_) fun h => ?_ | refine R1 ?_ | refine Q1 ?_ | fail)); all_goals (conv => whnf))
        refine All'.mk ?_; rintro (e' : ByteArray) he'
        obtain rfl : strOfNums v = e' := Option.some.inj (hce.symm.trans he')
        clear he'
        ((repeat' ((conv => whnf) <;> first | exact True.intro | (guard_target =~ Fork _ _ _; first | refine F1 ?_ | refine F2 ?_ | refine F3 (fun h => ?_) fun h => ?_) | (guard_target =~ Ar _ _ _; first | refine A1 ?_ | refine A2 ?_ | refine A3 ?_) | (guard_target =~ AskL _ _; first | refine L1 ?_) | (guard_target =~ Go.Eng.Ask _ _; first | refine K1 ?_) | (guard_target =~ All' _ _; first | (refine Y2 fun y he he' hy => ?_; (try dsimp only at he he' hy)) | (refine Y1 fun y he hy => ?_; (try with_reducible conv at he => (rhs; whnf)); (try dsimp only at he hy)) | (refine All'.mk ?_; intro y hy)) | refine F4 (fun h => ?_) fun h => ?_ | refine R1 ?_ | refine Q1 ?_ | fail)); all_goals (conv => whnf))
        refine CallP.mk (C := rSplitC) ⟨strOfNums v, 58⟩ ?_
        exact G1

      · have hpr2 : (splitL 58 (bytesL (strOfNums v))).map strOfNums = [strOfNums a, strOfNums b] := by show (splitL 58 (bytesL (strOfNums v))).map strOfNums = _; rw [hvb, h58]; rfl
        have hln : ((splitL 58 (bytesL (strOfNums v))).map strOfNums).length = 2 := by rw [hpr2]; rfl
        have hp0 : ((splitL 58 (bytesL (strOfNums v))).map strOfNums)[Int.toNat 0]? = some (strOfNums a) := by rw [hpr2]; rfl
        have hp1 : ((splitL 58 (bytesL (strOfNums v))).map strOfNums)[Int.toNat 1]? = some (strOfNums b) := by rw [hpr2]; rfl
        have hma := splitL_mem 58 v a (by rw [h58]; simp)
        have hmb := splitL_mem 58 v b (by rw [h58]; simp)
        have hab : bytesL (strOfNums a) = a := bytes_str (fun x hx => hvo x (hma.2 x hx).1)
        have hbb : bytesL (strOfNums b) = b := bytes_str (fun x hx => hvo x (hmb.2 x hx).1)
        have hza : (strOfNums a).size ≤ 100000000000 := by rw [str_size]; omega
        have hzb : (strOfNums b).size ≤ 100000000000 := by rw [str_size]; omega
        have hrw := refW_two h58
        have hbo : okB b := fun x hx => hvo x (hmb.2 x hx).1
        have hbz : b.length ≤ 100000 := by omega
        clear hma hmb hpr2
        rcases h45 : splitL 45 b with _ | ⟨f, rest⟩
        · exact absurd h45 (splitL_ne 45 b)
        · have hqe : (splitL 45 (bytesL (strOfNums b))).map strOfNums = strOfNums f :: rest.map strOfNums := by show (splitL 45 (bytesL (strOfNums b))).map strOfNums = _; rw [hbb, h45]; rfl
          have hq0 : ((splitL 45 (bytesL (strOfNums b))).map strOfNums)[Int.toNat 0]? = some (strOfNums f) := by rw [hqe]; rfl
          have hql : ((splitL 45 (bytesL (strOfNums b))).map strOfNums).length = rest.length + 1 := by rw [hqe, List.length_cons, List.length_map]
          have hmf := splitL_mem 45 b f (by rw [h45]; simp)
          have hfb : bytesL (strOfNums f) = f := bytes_str (fun x hx => hbo x (hmf.2 x hx).1)
          have hzf : (strOfNums f).size ≤ 100000000000 := by rw [str_size]; omega
          rw [h45] at hrw
          clear hmf
          ((repeat' ((conv => whnf) <;> first | exact True.intro | (guard_target =~ Fork _ _ _; first | refine F1 ?_ | refine F2 ?_ | refine F3 (fun h => ?_) fun h => ?_) | (guard_target =~ Ar _ _ _; first | refine A1 ?_ | refine A2 ?_ | refine A3 ?_) | (guard_target =~ AskL _ _; first | refine L1 ?_) | (guard_target =~ Go.Eng.Ask _ _; first | refine K1 ?_) | (guard_target =~ All' _ _; first | (refine Y2 fun y he he' hy => ?_; (try dsimp only at he he' hy)) | (refine Y1 fun y he hy => ?_; (try with_reducible conv at he => (rhs; whnf)); (try dsimp only at he hy))) | refine F4 (fun h => ?_) fun h => ?_ | refine R1 ?_ | refine Q1 ?_ | fail)); all_goals (conv => whnf))
          refine All'.mk ?_; rintro (e' : ByteArray) he'
          obtain rfl : strOfNums v = e' := Option.some.inj (hce.symm.trans he')
          clear he'
          ((repeat' ((conv => whnf) <;> first | exact True.intro | (guard_target =~ Fork _ _ _; first | refine F1 ?_ | refine F2 ?_ | refine F3 (fun h => ?_) fun h => ?_) | (guard_target =~ Ar _ _ _; first | refine A1 ?_ | refine A2 ?_ | refine A3 ?_) | (guard_target =~ AskL _ _; first | refine L1 ?_) | (guard_target =~ Go.Eng.Ask _ _; first | refine K1 ?_) | (guard_target =~ All' _ _; first | (refine Y2 fun y he he' hy => ?_; (try dsimp only at he he' hy)) | (refine Y1 fun y he hy => ?_; (try with_reducible conv at he => (rhs; whnf)); (try dsimp only at he hy)) | (refine All'.mk ?_; intro y hy)) | refine F4 (fun h => ?_) fun h => ?_ | refine R1 ?_ | refine Q1 ?_ | fail)); all_goals (conv => whnf))
          refine CallP.mk (C := rSplitC) ⟨strOfNums v, 58⟩ ?_
          ((repeat' ((conv => whnf) <;> first | exact True.intro | (guard_target =~ Fork _ _ _; first | refine F1 ?_ | refine F2 ?_ | refine F3 (fun h => ?_) fun h => ?_) | (guard_target =~ Ar _ _ _; first | refine A1 ?_ | refine A2 ?_ | refine A3 ?_) | (guard_target =~ AskL _ _; first | refine L1 ?_) | (guard_target =~ Go.Eng.Ask _ _; first | refine K1 ?_) | (guard_target =~ All' _ _; first | (refine Y2 fun y he he' hy => ?_; (try dsimp only at he he' hy)) | (refine Y1 fun y he hy => ?_; (try with_reducible conv at he => (rhs; whnf)); (try dsimp only at he hy))) | refine F4 (fun h => ?_) fun h => ?_ | refine R1 ?_ | refine Q1 ?_ | fail)); all_goals (conv => whnf))
          refine All'.mk ?_; rintro (e' : ByteArray) he'
          obtain rfl : strOfNums b = e' := Option.some.inj (hp1.symm.trans he')
          clear he'
          ((repeat' ((conv => whnf) <;> first | exact True.intro | (guard_target =~ Fork _ _ _; first | refine F1 ?_ | refine F2 ?_ | refine F3 (fun h => ?_) fun h => ?_) | (guard_target =~ Ar _ _ _; first | refine A1 ?_ | refine A2 ?_ | refine A3 ?_) | (guard_target =~ AskL _ _; first | refine L1 ?_) | (guard_target =~ Go.Eng.Ask _ _; first | refine K1 ?_) | (guard_target =~ All' _ _; first | (refine Y2 fun y he he' hy => ?_; (try dsimp only at he he' hy)) | (refine Y1 fun y he hy => ?_; (try with_reducible conv at he => (rhs; whnf)); (try dsimp only at he hy)) | (refine All'.mk ?_; intro y hy)) | refine F4 (fun h => ?_) fun h => ?_ | refine R1 ?_ | refine Q1 ?_ | fail)); all_goals (conv => whnf))
          refine CallP.mk (C := rSplitC) ⟨strOfNums b, 45⟩ ?_
          ((repeat' ((conv => whnf) <;> first | exact True.intro | (guard_target =~ Fork _ _ _; first | refine F1 ?_ | refine F2 ?_ | refine F3 (fun h => ?_) fun h => ?_) | (guard_target =~ Ar _ _ _; first | refine A1 ?_ | refine A2 ?_ | refine A3 ?_) | (guard_target =~ AskL _ _; first | refine L1 ?_) | (guard_target =~ Go.Eng.Ask _ _; first | refine K1 ?_) | (guard_target =~ All' _ _; first | (refine Y2 fun y he he' hy => ?_; (try dsimp only at he he' hy)) | (refine Y1 fun y he hy => ?_; (try with_reducible conv at he => (rhs; whnf)); (try dsimp only at he hy))) | refine F4 (fun h => ?_) fun h => ?_ | refine R1 ?_ | refine Q1 ?_ | fail)); all_goals (conv => whnf))
          refine All'.mk ?_; rintro (e' : ByteArray) he'
          obtain rfl : strOfNums a = e' := Option.some.inj (hp0.symm.trans he')
          clear he'
          have lm := And.intro hab hfb
          ((repeat' ((conv => whnf) <;> first | exact True.intro | (guard_target =~ Fork _ _ _; first | refine F1 ?_ | refine F2 ?_ | refine F3 (fun h => ?_) fun h => ?_) | (guard_target =~ Ar _ _ _; first | refine A1 ?_ | refine A2 ?_ | refine A3 ?_) | (guard_target =~ AskL _ _; first | refine L1 ?_) | (guard_target =~ Go.Eng.Ask _ _; first | refine K1 ?_) | (guard_target =~ All' _ _; first | (refine Y2 fun y he he' hy => ?_; (try dsimp only at he he' hy)) | (refine Y1 fun y he hy => ?_; (try with_reducible conv at he => (rhs; whnf)); (try dsimp only at he hy)) | (refine All'.mk ?_; intro y hy)) | refine F4 (fun h => ?_) fun h => ?_ | refine R1 ?_ | refine Q1 ?_ | fail)); all_goals (conv => whnf))
          refine CallP.mk (C := rNumTC) (strOfNums a) ?_
          ((repeat' ((conv => whnf) <;> first | exact True.intro | (guard_target =~ Fork _ _ _; first | refine F1 ?_ | refine F2 ?_ | refine F3 (fun h => ?_) fun h => ?_) | (guard_target =~ Ar _ _ _; first | refine A1 ?_ | refine A2 ?_ | refine A3 ?_) | (guard_target =~ AskL _ _; first | refine L1 ?_) | (guard_target =~ Go.Eng.Ask _ _; first | refine K1 ?_) | (guard_target =~ All' _ _; first | (refine Y2 fun y he he' hy => ?_; (try dsimp only at he he' hy)) | (refine Y1 fun y he hy => ?_; (try with_reducible conv at he => (rhs; whnf)); (try dsimp only at he hy))) | refine F4 (fun h => ?_) fun h => ?_ | refine R1 ?_ | refine Q1 ?_ | fail)); all_goals (conv => whnf))
          refine All'.mk ?_; rintro (e' : ByteArray) he'
          obtain rfl : strOfNums f = e' := Option.some.inj (hq0.symm.trans he')
          clear he'
          ((repeat' ((conv => whnf) <;> first | exact True.intro | (guard_target =~ Fork _ _ _; first | refine F1 ?_ | refine F2 ?_ | refine F3 (fun h => ?_) fun h => ?_) | (guard_target =~ Ar _ _ _; first | refine A1 ?_ | refine A2 ?_ | refine A3 ?_) | (guard_target =~ AskL _ _; first | refine L1 ?_) | (guard_target =~ Go.Eng.Ask _ _; first | refine K1 ?_) | (guard_target =~ All' _ _; first | (refine Y2 fun y he he' hy => ?_; (try dsimp only at he he' hy)) | (refine Y1 fun y he hy => ?_; (try with_reducible conv at he => (rhs; whnf)); (try dsimp only at he hy)) | (refine All'.mk ?_; intro y hy)) | refine F4 (fun h => ?_) fun h => ?_ | refine R1 ?_ | refine Q1 ?_ | fail)); all_goals (conv => whnf))
          refine CallP.mk (C := rNumTC) (strOfNums f) ?_
          cases oa : numOk a with
          | false =>
            have hno : refW v = none := hrw.trans (refW2_bad (fun h => by rw [oa] at h; cases h.1) rest)
            have k0 : ¬ parsedOk s := not_parsed h1 hvm hno
            have k1 := parsedB_false k0
            have k2 := parsedL_no k0
            have oa' : numOk (bytesL (strOfNums a)) = false := by rw [hab]; exact oa
            ((repeat' ((conv => whnf) <;> first | exact True.intro | (guard_target =~ Fork _ _ _; first | refine F1 ?_ | refine F2 ?_ | (refine Fork.pos ?_ ?_; · (simp only [hab, hfb, oa, oa', k1, k2, Bool.not_true, Bool.not_false, decide_eq_true_eq, beq_iff_eq, bne_iff_ne, ne_eq] <;> omega)) | (refine Fork.neg ?_ ?_; · (simp only [hab, hfb, oa, oa', k1, k2, Bool.not_true, Bool.not_false, decide_eq_false_iff_not, beq_eq_false_iff_ne] <;> omega)) | refine F3 (fun h => ?_) fun h => ?_) | (guard_target =~ Ar _ _ _; first | refine A1 ?_ | refine A2 ?_ | refine A3 ?_ | (refine Ar.fit (wrap_i64 ?_ ?_) ?_; · ((try dsimp only) <;> simp only [hab, hfb, oa, oa', k1, k2] <;> omega); · ((try dsimp only) <;> simp only [hab, hfb, oa, oa', k1, k2] <;> omega)) | (refine Ar.fit (wrap_u64 ?_ ?_) ?_; · ((try dsimp only) <;> simp only [hab, hfb, oa, oa', k1, k2] <;> omega); · ((try dsimp only) <;> simp only [hab, hfb, oa, oa', k1, k2] <;> omega))) | (guard_target =~ AskL _ _; first | (refine AskL.mk ?_ ?_; · ((simp only [conj]; repeat' apply And.intro) <;> first | rfl | trivial | omega | (simp only [hab, hfb, oa, oa', k1, k2]; done) | (simp only [hab, hfb, oa, oa', k1, k2] <;> omega) | (simp only [hab, hfb, oa, oa', k1, k2]; refine Bool.eq_iff_iff.2 ?_; simp only [decide_eq_true_eq, Bool.false_eq_true, true_iff, iff_true, false_iff, iff_false, eq_self]; omega) | (simp only [*, hab, hfb, oa, oa', k1, k2]; done))) | refine L1 ?_) | (guard_target =~ Go.Eng.Ask _ _; first | refine K1 ?_ | (refine Ask.mk ?_ ?_; · ((try dsimp only) <;> simp only [hab, hfb, oa, oa', k1, k2] <;> omega))) | (guard_target =~ All' _ _; first | (refine Y2 fun y he he' hy => ?_; (try dsimp only at he he' hy)) | (refine Y1 fun y he hy => ?_; (try with_reducible conv at he => (rhs; whnf)); (try dsimp only at he hy)) | (refine All'.mk ?_; intro y hy)) | refine F4 (fun h => ?_) fun h => ?_ | refine R1 ?_ | refine Q1 ?_ | fail)); all_goals (conv => whnf))
          | true =>
            have oa' : numOk (bytesL (strOfNums a)) = true := by rw [hab]; exact oa
            cases of : numOk f with
            | false =>
              have hno : refW v = none := hrw.trans (refW2_bad (fun h => by rw [of] at h; cases h.2) rest)
              have k0 : ¬ parsedOk s := not_parsed h1 hvm hno
              have k1 := parsedB_false k0
              have k2 := parsedL_no k0
              have of' : numOk (bytesL (strOfNums f)) = false := by rw [hfb]; exact of
              ((repeat' ((conv => whnf) <;> first | exact True.intro | (guard_target =~ Fork _ _ _; first | refine F1 ?_ | refine F2 ?_ | (refine Fork.pos ?_ ?_; · (simp only [hab, hfb, oa, oa', of, of', k1, k2, Bool.not_true, Bool.not_false, decide_eq_true_eq, beq_iff_eq, bne_iff_ne, ne_eq] <;> omega)) | (refine Fork.neg ?_ ?_; · (simp only [hab, hfb, oa, oa', of, of', k1, k2, Bool.not_true, Bool.not_false, decide_eq_false_iff_not, beq_eq_false_iff_ne] <;> omega)) | refine F3 (fun h => ?_) fun h => ?_) | (guard_target =~ Ar _ _ _; first | refine A1 ?_ | refine A2 ?_ | refine A3 ?_ | (refine Ar.fit (wrap_i64 ?_ ?_) ?_; · ((try dsimp only) <;> simp only [hab, hfb, oa, oa', of, of', k1, k2] <;> omega); · ((try dsimp only) <;> simp only [hab, hfb, oa, oa', of, of', k1, k2] <;> omega)) | (refine Ar.fit (wrap_u64 ?_ ?_) ?_; · ((try dsimp only) <;> simp only [hab, hfb, oa, oa', of, of', k1, k2] <;> omega); · ((try dsimp only) <;> simp only [hab, hfb, oa, oa', of, of', k1, k2] <;> omega))) | (guard_target =~ AskL _ _; first | (refine AskL.mk ?_ ?_; · ((simp only [conj]; repeat' apply And.intro) <;> first | rfl | trivial | omega | (simp only [hab, hfb, oa, oa', of, of', k1, k2]; done) | (simp only [hab, hfb, oa, oa', of, of', k1, k2] <;> omega) | (simp only [hab, hfb, oa, oa', of, of', k1, k2]; refine Bool.eq_iff_iff.2 ?_; simp only [decide_eq_true_eq, Bool.false_eq_true, true_iff, iff_true, false_iff, iff_false, eq_self]; omega) | (simp only [*, hab, hfb, oa, oa', of, of', k1, k2]; done))) | refine L1 ?_) | (guard_target =~ Go.Eng.Ask _ _; first | refine K1 ?_ | (refine Ask.mk ?_ ?_; · ((try dsimp only) <;> simp only [hab, hfb, oa, oa', of, of', k1, k2] <;> omega))) | (guard_target =~ All' _ _; first | (refine Y2 fun y he he' hy => ?_; (try dsimp only at he he' hy)) | (refine Y1 fun y he hy => ?_; (try with_reducible conv at he => (rhs; whnf)); (try dsimp only at he hy)) | (refine All'.mk ?_; intro y hy)) | refine F4 (fun h => ?_) fun h => ?_ | refine R1 ?_ | refine Q1 ?_ | fail)); all_goals (conv => whnf))
            | true =>
              have of' : numOk (bytesL (strOfNums f)) = true := by rw [hfb]; exact of
              rcases rest with _ | ⟨t, _ | ⟨x, l⟩⟩
              · have hsome : refW v = some (numV a, numV f, numV f) := hrw.trans (if_pos ⟨oa, of⟩)
                have hpr : (rparseL s).pre (c ++ [(numV a, numV f, numV f)]) := by
                  refine ⟨by show (c ++ [_]).length ≤ ((splitL 32 (bytesL s)).map strOfNums).length; rw [List.length_append, List.length_singleton, List.length_map]; omega, ?_⟩
                  show ((splitL 32 (bytesL s)).take (c ++ [_]).length).map refW = (c ++ [_]).map some
                  rw [List.length_append, List.length_singleton, take_get hv, List.map_append, hpre, List.map_append, List.map_singleton, hsome]; rfl
                have hmu : (rparseL s).mu (c ++ [(numV a, numV f, numV f)]) < (rparseL s).mu c := by
                  show ((splitL 32 (bytesL s)).map strOfNums).length - (c ++ [_]).length < ((splitL 32 (bytesL s)).map strOfNums).length - c.length
                  rw [List.length_append, List.length_singleton, List.length_map]; omega
                have hap : ∀ x : Run, c.length + [x].length ≤ 274877906944 := fun x => by rw [List.length_singleton]; omega
                have hql : ((splitL 45 (bytesL (strOfNums b))).map strOfNums).length = 1 := hql
                ((repeat' ((conv => whnf) <;> first | exact True.intro | (guard_target =~ Fork _ _ _; first | refine F1 ?_ | refine F2 ?_ | (refine Fork.pos ?_ ?_; · (simp only [hab, hfb, oa, oa', of, of', Bool.not_true, Bool.not_false, decide_eq_true_eq, beq_iff_eq, bne_iff_ne, ne_eq] <;> omega)) | (refine Fork.neg ?_ ?_; · (simp only [hab, hfb, oa, oa', of, of', Bool.not_true, Bool.not_false, decide_eq_false_iff_not, beq_eq_false_iff_ne] <;> omega)) | refine F3 (fun h => ?_) fun h => ?_) | (guard_target =~ Ar _ _ _; first | refine A1 ?_ | refine A2 ?_ | refine A3 ?_ | (refine Ar.fit (wrap_i64 ?_ ?_) ?_; · ((try dsimp only) <;> simp only [hab, hfb, oa, oa', of, of'] <;> omega); · ((try dsimp only) <;> simp only [hab, hfb, oa, oa', of, of'] <;> omega)) | (refine Ar.fit (wrap_u64 ?_ ?_) ?_; · ((try dsimp only) <;> simp only [hab, hfb, oa, oa', of, of'] <;> omega); · ((try dsimp only) <;> simp only [hab, hfb, oa, oa', of, of'] <;> omega))) | (guard_target =~ AskL _ _; first | (refine AskL.mk ?_ ?_; · ((simp only [conj]; repeat' apply And.intro) <;> first | rfl | trivial | omega | (simp only [hab, hfb, oa, oa', of, of']; done) | (simp only [hab, hfb, oa, oa', of, of'] <;> omega) | (simp only [hab, hfb, oa, oa', of, of']; refine Bool.eq_iff_iff.2 ?_; simp only [decide_eq_true_eq, Bool.false_eq_true, true_iff, iff_true, false_iff, iff_false, eq_self]; omega) | (simp only [*, hab, hfb, oa, oa', of, of']; done))) | refine L1 ?_) | (guard_target =~ Go.Eng.Ask _ _; first | refine K1 ?_ | (refine Ask.mk ?_ ?_; · ((try dsimp only) <;> simp only [hab, hfb, oa, oa', of, of'] <;> omega))) | (guard_target =~ All' _ _; first | (refine Y2 fun y he he' hy => ?_; (try dsimp only at he he' hy)) | (refine Y1 fun y he hy => ?_; (try with_reducible conv at he => (rhs; whnf)); (try dsimp only at he hy)) | (refine All'.mk ?_; intro y hy)) | refine F4 (fun h => ?_) fun h => ?_ | refine R1 ?_ | refine Q1 ?_ | fail)); all_goals (conv => whnf))
                refine Some'.mk (c ++ [(numV a, numV f, numV f)]) ?_
                ((repeat' ((conv => whnf) <;> first | exact True.intro | (guard_target =~ Fork _ _ _; first | refine F1 ?_ | refine F2 ?_ | (refine Fork.pos ?_ ?_; · (simp only [hab, hfb, oa, oa', of, of', Bool.not_true, Bool.not_false, decide_eq_true_eq, beq_iff_eq, bne_iff_ne, ne_eq] <;> omega)) | (refine Fork.neg ?_ ?_; · (simp only [hab, hfb, oa, oa', of, of', Bool.not_true, Bool.not_false, decide_eq_false_iff_not, beq_eq_false_iff_ne] <;> omega)) | refine F3 (fun h => ?_) fun h => ?_) | (guard_target =~ Ar _ _ _; first | refine A1 ?_ | refine A2 ?_ | refine A3 ?_ | (refine Ar.fit (wrap_i64 ?_ ?_) ?_; · ((try dsimp only) <;> simp only [hab, hfb, oa, oa', of, of'] <;> omega); · ((try dsimp only) <;> simp only [hab, hfb, oa, oa', of, of'] <;> omega)) | (refine Ar.fit (wrap_u64 ?_ ?_) ?_; · ((try dsimp only) <;> simp only [hab, hfb, oa, oa', of, of'] <;> omega); · ((try dsimp only) <;> simp only [hab, hfb, oa, oa', of, of'] <;> omega))) | (guard_target =~ Go.Eng.Ask _ _; first | refine K1 ?_ | (refine Ask.mk ?_ ?_; · ((try dsimp only) <;> simp only [hab, hfb, oa, oa', of, of'] <;> omega))) | (guard_target =~ All' _ _; first | (refine Y2 fun y he he' hy => ?_; (try dsimp only at he he' hy)) | (refine Y1 fun y he hy => ?_; (try with_reducible conv at he => (rhs; whnf)); (try dsimp only at he hy)) | (refine All'.mk ?_; intro y hy)) | refine F4 (fun h => ?_) fun h => ?_ | refine R1 ?_ | refine Q1 ?_ | fail)); all_goals (conv => whnf))
                refine AskL.mk ?_ (Ask.mk hpr (Ask.mk hmu trivial))
                (dsimp only [conj]; repeat' apply And.intro) <;> first | rfl | (rw [List.length_append]; rfl) | (rw [if_pos oa', if_pos of', hab, hfb])
              · have hql : ((splitL 45 (bytesL (strOfNums b))).map strOfNums).length = 2 := hql
                have hq1 : ((splitL 45 (bytesL (strOfNums b))).map strOfNums)[Int.toNat 1]? = some (strOfNums t) := by rw [hqe]; rfl
                have hmt := splitL_mem 45 b t (by rw [h45]; simp)
                have htb : bytesL (strOfNums t) = t := bytes_str (fun x hx => hbo x (hmt.2 x hx).1)
                have hzt : (strOfNums t).size ≤ 100000000000 := by rw [str_size]; omega
                clear hmt
                ((repeat' ((conv => whnf) <;> first | exact True.intro | (guard_target =~ Fork _ _ _; first | refine F1 ?_ | refine F2 ?_ | (refine Fork.pos ?_ ?_; · (simp only [hab, hfb, oa, oa', of, of', Bool.not_true, Bool.not_false, decide_eq_true_eq, beq_iff_eq, bne_iff_ne, ne_eq] <;> omega)) | (refine Fork.neg ?_ ?_; · (simp only [hab, hfb, oa, oa', of, of', Bool.not_true, Bool.not_false, decide_eq_false_iff_not, beq_eq_false_iff_ne] <;> omega)) | refine F3 (fun h => ?_) fun h => ?_) | (guard_target =~ Ar _ _ _; first | refine A1 ?_ | refine A2 ?_ | refine A3 ?_ | (refine Ar.fit (wrap_i64 ?_ ?_) ?_; · ((try dsimp only) <;> simp only [hab, hfb, oa, oa', of, of'] <;> omega); · ((try dsimp only) <;> simp only [hab, hfb, oa, oa', of, of'] <;> omega)) | (refine Ar.fit (wrap_u64 ?_ ?_) ?_; · ((try dsimp only) <;> simp only [hab, hfb, oa, oa', of, of'] <;> omega); · ((try dsimp only) <;> simp only [hab, hfb, oa, oa', of, of'] <;> omega))) | (guard_target =~ AskL _ _; first | (refine AskL.mk ?_ ?_; · ((simp only [conj]; repeat' apply And.intro) <;> first | rfl | trivial | omega | (simp only [hab, hfb, oa, oa', of, of']; done) | (simp only [hab, hfb, oa, oa', of, of'] <;> omega) | (simp only [hab, hfb, oa, oa', of, of']; refine Bool.eq_iff_iff.2 ?_; simp only [decide_eq_true_eq, Bool.false_eq_true, true_iff, iff_true, false_iff, iff_false, eq_self]; omega) | (simp only [*, hab, hfb, oa, oa', of, of']; done))) | refine L1 ?_) | (guard_target =~ Go.Eng.Ask _ _; first | refine K1 ?_ | (refine Ask.mk ?_ ?_; · ((try dsimp only) <;> simp only [hab, hfb, oa, oa', of, of'] <;> omega))) | (guard_target =~ All' _ _; first | (refine Y2 fun y he he' hy => ?_; (try dsimp only at he he' hy)) | (refine Y1 fun y he hy => ?_; (try with_reducible conv at he => (rhs; whnf)); (try dsimp only at he hy))) | refine F4 (fun h => ?_) fun h => ?_ | refine R1 ?_ | refine Q1 ?_ | fail)); all_goals (conv => whnf))
                refine All'.mk ?_; rintro (e' : ByteArray) he'
                obtain rfl : strOfNums t = e' := Option.some.inj (hq1.symm.trans he')
                clear he'
                ((repeat' ((conv => whnf) <;> first | exact True.intro | (guard_target =~ Fork _ _ _; first | refine F1 ?_ | refine F2 ?_ | (refine Fork.pos ?_ ?_; · (simp only [hab, hfb, oa, oa', of, of', Bool.not_true, Bool.not_false, decide_eq_true_eq, beq_iff_eq, bne_iff_ne, ne_eq] <;> omega)) | (refine Fork.neg ?_ ?_; · (simp only [hab, hfb, oa, oa', of, of', Bool.not_true, Bool.not_false, decide_eq_false_iff_not, beq_eq_false_iff_ne] <;> omega)) | refine F3 (fun h => ?_) fun h => ?_) | (guard_target =~ Ar _ _ _; first | refine A1 ?_ | refine A2 ?_ | refine A3 ?_ | (refine Ar.fit (wrap_i64 ?_ ?_) ?_; · ((try dsimp only) <;> simp only [hab, hfb, oa, oa', of, of'] <;> omega); · ((try dsimp only) <;> simp only [hab, hfb, oa, oa', of, of'] <;> omega)) | (refine Ar.fit (wrap_u64 ?_ ?_) ?_; · ((try dsimp only) <;> simp only [hab, hfb, oa, oa', of, of'] <;> omega); · ((try dsimp only) <;> simp only [hab, hfb, oa, oa', of, of'] <;> omega))) | (guard_target =~ AskL _ _; first | (refine AskL.mk ?_ ?_; · ((simp only [conj]; repeat' apply And.intro) <;> first | rfl | trivial | omega | (simp only [hab, hfb, oa, oa', of, of']; done) | (simp only [hab, hfb, oa, oa', of, of'] <;> omega) | (simp only [hab, hfb, oa, oa', of, of']; refine Bool.eq_iff_iff.2 ?_; simp only [decide_eq_true_eq, Bool.false_eq_true, true_iff, iff_true, false_iff, iff_false, eq_self]; omega) | (simp only [*, hab, hfb, oa, oa', of, of']; done))) | refine L1 ?_) | (guard_target =~ Go.Eng.Ask _ _; first | refine K1 ?_ | (refine Ask.mk ?_ ?_; · ((try dsimp only) <;> simp only [hab, hfb, oa, oa', of, of'] <;> omega))) | (guard_target =~ All' _ _; first | (refine Y2 fun y he he' hy => ?_; (try dsimp only at he he' hy)) | (refine Y1 fun y he hy => ?_; (try with_reducible conv at he => (rhs; whnf)); (try dsimp only at he hy)) | (refine All'.mk ?_; intro y hy)) | refine F4 (fun h => ?_) fun h => ?_ | refine R1 ?_ | refine Q1 ?_ | fail)); all_goals (conv => whnf))
                refine CallP.mk (C := rNumTC) (strOfNums t) ?_
                cases ot : numOk t with
                | false =>
                  have hno : refW v = none := hrw.trans (if_neg (fun h => by rw [ot] at h; cases h.2.1))
                  have k0 : ¬ parsedOk s := not_parsed h1 hvm hno
                  have k1 := parsedB_false k0
                  have k2 := parsedL_no k0
                  have ot' : numOk (bytesL (strOfNums t)) = false := by rw [htb]; exact ot
                  ((repeat' ((conv => whnf) <;> first | exact True.intro | (guard_target =~ Fork _ _ _; first | refine F1 ?_ | refine F2 ?_ | (refine Fork.pos ?_ ?_; · (simp only [hab, hfb, htb, oa, oa', of, of', ot, ot', k1, k2, Bool.not_true, Bool.not_false, decide_eq_true_eq, beq_iff_eq, bne_iff_ne, ne_eq] <;> omega)) | (refine Fork.neg ?_ ?_; · (simp only [hab, hfb, htb, oa, oa', of, of', ot, ot', k1, k2, Bool.not_true, Bool.not_false, decide_eq_false_iff_not, beq_eq_false_iff_ne] <;> omega)) | refine F3 (fun h => ?_) fun h => ?_) | (guard_target =~ Ar _ _ _; first | refine A1 ?_ | refine A2 ?_ | refine A3 ?_ | (refine Ar.fit (wrap_i64 ?_ ?_) ?_; · ((try dsimp only) <;> simp only [hab, hfb, htb, oa, oa', of, of', ot, ot', k1, k2] <;> omega); · ((try dsimp only) <;> simp only [hab, hfb, htb, oa, oa', of, of', ot, ot', k1, k2] <;> omega)) | (refine Ar.fit (wrap_u64 ?_ ?_) ?_; · ((try dsimp only) <;> simp only [hab, hfb, htb, oa, oa', of, of', ot, ot', k1, k2] <;> omega); · ((try dsimp only) <;> simp only [hab, hfb, htb, oa, oa', of, of', ot, ot', k1, k2] <;> omega))) | (guard_target =~ AskL _ _; first | (refine AskL.mk ?_ ?_; · ((simp only [conj]; repeat' apply And.intro) <;> first | rfl | trivial | omega | (simp only [hab, hfb, htb, oa, oa', of, of', ot, ot', k1, k2]; done) | (simp only [hab, hfb, htb, oa, oa', of, of', ot, ot', k1, k2] <;> omega) | (simp only [hab, hfb, htb, oa, oa', of, of', ot, ot', k1, k2]; refine Bool.eq_iff_iff.2 ?_; simp only [decide_eq_true_eq, Bool.false_eq_true, true_iff, iff_true, false_iff, iff_false, eq_self]; omega) | (simp only [*, hab, hfb, htb, oa, oa', of, of', ot, ot', k1, k2]; done))) | refine L1 ?_) | (guard_target =~ Go.Eng.Ask _ _; first | refine K1 ?_ | (refine Ask.mk ?_ ?_; · ((try dsimp only) <;> simp only [hab, hfb, htb, oa, oa', of, of', ot, ot', k1, k2] <;> omega))) | (guard_target =~ All' _ _; first | (refine Y2 fun y he he' hy => ?_; (try dsimp only at he he' hy)) | (refine Y1 fun y he hy => ?_; (try with_reducible conv at he => (rhs; whnf)); (try dsimp only at he hy)) | (refine All'.mk ?_; intro y hy)) | refine F4 (fun h => ?_) fun h => ?_ | refine R1 ?_ | refine Q1 ?_ | fail)); all_goals (conv => whnf))
                | true =>
                  have ot' : numOk (bytesL (strOfNums t)) = true := by rw [htb]; exact ot
                  by_cases hne : numV t = numV f
                  · have hno : refW v = none := hrw.trans (if_neg (fun h => h.2.2 hne))
                    have k0 : ¬ parsedOk s := not_parsed h1 hvm hno
                    have k1 := parsedB_false k0
                    have k2 := parsedL_no k0
                    have hne' : (if numOk (bytesL (strOfNums t)) = true then numV (bytesL (strOfNums t)) else 0) = (if numOk (bytesL (strOfNums f)) = true then numV (bytesL (strOfNums f)) else 0) := by rw [if_pos ot', if_pos of', htb, hfb]; exact hne
                    ((repeat' ((conv => whnf) <;> first | exact True.intro | (guard_target =~ Fork _ _ _; first | refine F1 ?_ | refine F2 ?_ | (refine Fork.pos ?_ ?_; · (simp only [hab, hfb, htb, oa, oa', of, of', ot, ot', k1, k2, Bool.not_true, Bool.not_false, decide_eq_true_eq, beq_iff_eq, bne_iff_ne, ne_eq] <;> omega)) | (refine Fork.neg ?_ ?_; · (simp only [hab, hfb, htb, oa, oa', of, of', ot, ot', k1, k2, Bool.not_true, Bool.not_false, decide_eq_false_iff_not, beq_eq_false_iff_ne] <;> omega)) | refine F3 (fun h => ?_) fun h => ?_) | (guard_target =~ Ar _ _ _; first | refine A1 ?_ | refine A2 ?_ | refine A3 ?_ | (refine Ar.fit (wrap_i64 ?_ ?_) ?_; · ((try dsimp only) <;> simp only [hab, hfb, htb, oa, oa', of, of', ot, ot', k1, k2] <;> omega); · ((try dsimp only) <;> simp only [hab, hfb, htb, oa, oa', of, of', ot, ot', k1, k2] <;> omega)) | (refine Ar.fit (wrap_u64 ?_ ?_) ?_; · ((try dsimp only) <;> simp only [hab, hfb, htb, oa, oa', of, of', ot, ot', k1, k2] <;> omega); · ((try dsimp only) <;> simp only [hab, hfb, htb, oa, oa', of, of', ot, ot', k1, k2] <;> omega))) | (guard_target =~ AskL _ _; first | (refine AskL.mk ?_ ?_; · ((simp only [conj]; repeat' apply And.intro) <;> first | rfl | trivial | omega | (simp only [hab, hfb, htb, oa, oa', of, of', ot, ot', k1, k2]; done) | (simp only [hab, hfb, htb, oa, oa', of, of', ot, ot', k1, k2] <;> omega) | (simp only [hab, hfb, htb, oa, oa', of, of', ot, ot', k1, k2]; refine Bool.eq_iff_iff.2 ?_; simp only [decide_eq_true_eq, Bool.false_eq_true, true_iff, iff_true, false_iff, iff_false, eq_self]; omega) | (simp only [*, hab, hfb, htb, oa, oa', of, of', ot, ot', k1, k2]; done))) | refine L1 ?_) | (guard_target =~ Go.Eng.Ask _ _; first | refine K1 ?_ | (refine Ask.mk ?_ ?_; · ((try dsimp only) <;> simp only [hab, hfb, htb, oa, oa', of, of', ot, ot', k1, k2] <;> omega))) | (guard_target =~ All' _ _; first | (refine Y2 fun y he he' hy => ?_; (try dsimp only at he he' hy)) | (refine Y1 fun y he hy => ?_; (try with_reducible conv at he => (rhs; whnf)); (try dsimp only at he hy)) | (refine All'.mk ?_; intro y hy)) | refine F4 (fun h => ?_) fun h => ?_ | refine R1 ?_ | refine Q1 ?_ | fail)); all_goals (conv => whnf))
                  · have hsome : refW v = some (numV a, numV f, numV t) := hrw.trans (if_pos ⟨⟨oa, of⟩, ot, hne⟩)
                    have hpr : (rparseL s).pre (c ++ [(numV a, numV f, numV t)]) := by
                      refine ⟨by show (c ++ [_]).length ≤ ((splitL 32 (bytesL s)).map strOfNums).length; rw [List.length_append, List.length_singleton, List.length_map]; omega, ?_⟩
                      show ((splitL 32 (bytesL s)).take (c ++ [_]).length).map refW = (c ++ [_]).map some
                      rw [List.length_append, List.length_singleton, take_get hv, List.map_append, hpre, List.map_append, List.map_singleton, hsome]; rfl
                    have hmu : (rparseL s).mu (c ++ [(numV a, numV f, numV t)]) < (rparseL s).mu c := by
                      show ((splitL 32 (bytesL s)).map strOfNums).length - (c ++ [_]).length < ((splitL 32 (bytesL s)).map strOfNums).length - c.length
                      rw [List.length_append, List.length_singleton, List.length_map]; omega
                    have hap : ∀ x : Run, c.length + [x].length ≤ 274877906944 := fun x => by rw [List.length_singleton]; omega
                    have hne' : ¬ (if numOk (bytesL (strOfNums t)) = true then numV (bytesL (strOfNums t)) else 0) = (if numOk (bytesL (strOfNums f)) = true then numV (bytesL (strOfNums f)) else 0) := by rw [if_pos ot', if_pos of', htb, hfb]; exact hne
                    ((repeat' ((conv => whnf) <;> first | exact True.intro | (guard_target =~ Fork _ _ _; first | refine F1 ?_ | refine F2 ?_ | (refine Fork.pos ?_ ?_; · (simp only [hab, hfb, htb, oa, oa', of, of', ot, ot', Bool.not_true, Bool.not_false, decide_eq_true_eq, beq_iff_eq, bne_iff_ne, ne_eq] <;> omega)) | (refine Fork.neg ?_ ?_; · (simp only [hab, hfb, htb, oa, oa', of, of', ot, ot', Bool.not_true, Bool.not_false, decide_eq_false_iff_not, beq_eq_false_iff_ne] <;> omega)) | refine F3 (fun h => ?_) fun h => ?_) | (guard_target =~ Ar _ _ _; first | refine A1 ?_ | refine A2 ?_ | refine A3 ?_ | (refine Ar.fit (wrap_i64 ?_ ?_) ?_; · ((try dsimp only) <;> simp only [hab, hfb, htb, oa, oa', of, of', ot, ot'] <;> omega); · ((try dsimp only) <;> simp only [hab, hfb, htb, oa, oa', of, of', ot, ot'] <;> omega)) | (refine Ar.fit (wrap_u64 ?_ ?_) ?_; · ((try dsimp only) <;> simp only [hab, hfb, htb, oa, oa', of, of', ot, ot'] <;> omega); · ((try dsimp only) <;> simp only [hab, hfb, htb, oa, oa', of, of', ot, ot'] <;> omega))) | (guard_target =~ AskL _ _; first | (refine AskL.mk ?_ ?_; · ((simp only [conj]; repeat' apply And.intro) <;> first | rfl | trivial | omega | (simp only [hab, hfb, htb, oa, oa', of, of', ot, ot']; done) | (simp only [hab, hfb, htb, oa, oa', of, of', ot, ot'] <;> omega) | (simp only [hab, hfb, htb, oa, oa', of, of', ot, ot']; refine Bool.eq_iff_iff.2 ?_; simp only [decide_eq_true_eq, Bool.false_eq_true, true_iff, iff_true, false_iff, iff_false, eq_self]; omega) | (simp only [*, hab, hfb, htb, oa, oa', of, of', ot, ot']; done))) | refine L1 ?_) | (guard_target =~ Go.Eng.Ask _ _; first | refine K1 ?_ | (refine Ask.mk ?_ ?_; · ((try dsimp only) <;> simp only [hab, hfb, htb, oa, oa', of, of', ot, ot'] <;> omega))) | (guard_target =~ All' _ _; first | (refine Y2 fun y he he' hy => ?_; (try dsimp only at he he' hy)) | (refine Y1 fun y he hy => ?_; (try with_reducible conv at he => (rhs; whnf)); (try dsimp only at he hy)) | (refine All'.mk ?_; intro y hy)) | refine F4 (fun h => ?_) fun h => ?_ | refine R1 ?_ | refine Q1 ?_ | fail)); all_goals (conv => whnf))
                    refine Some'.mk (c ++ [(numV a, numV f, numV t)]) ?_
                    ((repeat' ((conv => whnf) <;> first | exact True.intro | (guard_target =~ Fork _ _ _; first | refine F1 ?_ | refine F2 ?_ | (refine Fork.pos ?_ ?_; · (simp only [hab, hfb, htb, oa, oa', of, of', ot, ot', Bool.not_true, Bool.not_false, decide_eq_true_eq, beq_iff_eq, bne_iff_ne, ne_eq] <;> omega)) | (refine Fork.neg ?_ ?_; · (simp only [hab, hfb, htb, oa, oa', of, of', ot, ot', Bool.not_true, Bool.not_false, decide_eq_false_iff_not, beq_eq_false_iff_ne] <;> omega)) | refine F3 (fun h => ?_) fun h => ?_) | (guard_target =~ Ar _ _ _; first | refine A1 ?_ | refine A2 ?_ | refine A3 ?_ | (refine Ar.fit (wrap_i64 ?_ ?_) ?_; · ((try dsimp only) <;> simp only [hab, hfb, htb, oa, oa', of, of', ot, ot'] <;> omega); · ((try dsimp only) <;> simp only [hab, hfb, htb, oa, oa', of, of', ot, ot'] <;> omega)) | (refine Ar.fit (wrap_u64 ?_ ?_) ?_; · ((try dsimp only) <;> simp only [hab, hfb, htb, oa, oa', of, of', ot, ot'] <;> omega); · ((try dsimp only) <;> simp only [hab, hfb, htb, oa, oa', of, of', ot, ot'] <;> omega))) | (guard_target =~ Go.Eng.Ask _ _; first | refine K1 ?_ | (refine Ask.mk ?_ ?_; · ((try dsimp only) <;> simp only [hab, hfb, htb, oa, oa', of, of', ot, ot'] <;> omega))) | (guard_target =~ All' _ _; first | (refine Y2 fun y he he' hy => ?_; (try dsimp only at he he' hy)) | (refine Y1 fun y he hy => ?_; (try with_reducible conv at he => (rhs; whnf)); (try dsimp only at he hy)) | (refine All'.mk ?_; intro y hy)) | refine F4 (fun h => ?_) fun h => ?_ | refine R1 ?_ | refine Q1 ?_ | fail)); all_goals (conv => whnf))
                    refine AskL.mk ?_ (Ask.mk hpr (Ask.mk hmu trivial))
                    (dsimp only [conj]; repeat' apply And.intro) <;> first | rfl | (rw [List.length_append]; rfl) | (rw [if_pos oa', if_pos of', if_pos ot', hab, hfb, htb])
              · have hno : refW v = none := hrw
                have k0 : ¬ parsedOk s := not_parsed h1 hvm hno
                have k1 := parsedB_false k0
                have k2 := parsedL_no k0
                have hql : ((splitL 45 (bytesL (strOfNums b))).map strOfNums).length = l.length + 3 := hql
                ((repeat' ((conv => whnf) <;> first | exact True.intro | (guard_target =~ Fork _ _ _; first | refine F1 ?_ | refine F2 ?_ | (refine Fork.pos ?_ ?_; · (simp only [hab, hfb, oa, oa', of, of', k1, k2, Bool.not_true, Bool.not_false, decide_eq_true_eq, beq_iff_eq, bne_iff_ne, ne_eq] <;> omega)) | (refine Fork.neg ?_ ?_; · (simp only [hab, hfb, oa, oa', of, of', k1, k2, Bool.not_true, Bool.not_false, decide_eq_false_iff_not, beq_eq_false_iff_ne] <;> omega)) | refine F3 (fun h => ?_) fun h => ?_) | (guard_target =~ Ar _ _ _; first | refine A1 ?_ | refine A2 ?_ | refine A3 ?_ | (refine Ar.fit (wrap_i64 ?_ ?_) ?_; · ((try dsimp only) <;> simp only [hab, hfb, oa, oa', of, of', k1, k2] <;> omega); · ((try dsimp only) <;> simp only [hab, hfb, oa, oa', of, of', k1, k2] <;> omega)) | (refine Ar.fit (wrap_u64 ?_ ?_) ?_; · ((try dsimp only) <;> simp only [hab, hfb, oa, oa', of, of', k1, k2] <;> omega); · ((try dsimp only) <;> simp only [hab, hfb, oa, oa', of, of', k1, k2] <;> omega))) | (guard_target =~ AskL _ _; first | (refine AskL.mk ?_ ?_; · ((simp only [conj]; repeat' apply And.intro) <;> first | rfl | trivial | omega | (simp only [hab, hfb, oa, oa', of, of', k1, k2]; done) | (simp only [hab, hfb, oa, oa', of, of', k1, k2] <;> omega) | (simp only [hab, hfb, oa, oa', of, of', k1, k2]; refine Bool.eq_iff_iff.2 ?_; simp only [decide_eq_true_eq, Bool.false_eq_true, true_iff, iff_true, false_iff, iff_false, eq_self]; omega) | (simp only [*, hab, hfb, oa, oa', of, of', k1, k2]; done))) | refine L1 ?_) | (guard_target =~ Go.Eng.Ask _ _; first | refine K1 ?_ | (refine Ask.mk ?_ ?_; · ((try dsimp only) <;> simp only [hab, hfb, oa, oa', of, of', k1, k2] <;> omega))) | (guard_target =~ All' _ _; first | (refine Y2 fun y he he' hy => ?_; (try dsimp only at he he' hy)) | (refine Y1 fun y he hy => ?_; (try with_reducible conv at he => (rhs; whnf)); (try dsimp only at he hy)) | (refine All'.mk ?_; intro y hy)) | refine F4 (fun h => ?_) fun h => ?_ | refine R1 ?_ | refine Q1 ?_ | fail)); all_goals (conv => whnf))
      · have hno : refW v = none := by unfold refW; rw [h58]; rfl
        have k0 : ¬ parsedOk s := not_parsed h1 hvm hno
        have k1 := parsedB_false k0
        have k2 := parsedL_no k0
        have hln : ((splitL 58 (bytesL (strOfNums v))).map strOfNums).length = l.length + 3 := by rw [List.length_map, hvb, h58]; rfl
        ((repeat' ((conv => whnf) <;> first | exact True.intro | (guard_target =~ Fork _ _ _; first | refine F1 ?_ | refine F2 ?_ | (refine Fork.pos ?_ ?_; · (simp only [hab, hfb, oa, oa', of, of', k1, k2, Bool.not_true, Bool.not_false, decide_eq_true_eq, beq_iff_eq, bne_iff_ne, ne_eq] <;> omega)) | (refine Fork.neg ?_ ?_; · (simp only [hab, hfb, oa, oa', of, of', k1, k2, Bool.not_true, Bool.not_false, decide_eq_false_iff_not, beq_eq_false_iff_ne] <;> omega)) | refine F3 (fun h => ?_) fun h => ?_) | (guard_target =~ Ar _ _ _; first | refine A1 ?_ | refine A2 ?_ | refine A3 ?_ | (refine Ar.fit (wrap_i64 ?_ ?_) ?_; · ((try dsimp only) <;> simp only [hab, hfb, oa, oa', of, of', k1, k2] <;> omega); · ((try dsimp only) <;> simp only [hab, hfb, oa, oa', of, of', k1, k2] <;> omega)) | (refine Ar.fit (wrap_u64 ?_ ?_) ?_; · ((try dsimp only) <;> simp only [hab, hfb, oa, oa', of, of', k1, k2] <;> omega); · ((try dsimp only) <;> simp only [hab, hfb, oa, oa', of, of', k1, k2] <;> omega))) | (guard_target =~ AskL _ _; first | (refine AskL.mk ?_ ?_; · ((simp only [conj]; repeat' apply And.intro) <;> first | rfl | trivial | omega | (simp only [hab, hfb, oa, oa', of, of', k1, k2]; done) | (simp only [hab, hfb, oa, oa', of, of', k1, k2] <;> omega) | (simp only [hab, hfb, oa, oa', of, of', k1, k2]; refine Bool.eq_iff_iff.2 ?_; simp only [decide_eq_true_eq, Bool.false_eq_true, true_iff, iff_true, false_iff, iff_false, eq_self]; omega) | (simp only [*, hab, hfb, oa, oa', of, of', k1, k2]; done))) | refine L1 ?_) | (guard_target =~ Go.Eng.Ask _ _; first | refine K1 ?_ | (refine Ask.mk ?_ ?_; · ((try dsimp only) <;> simp only [hab, hfb, oa, oa', of, of', k1, k2] <;> omega))) | (guard_target =~ All' _ _; first | (refine Y2 fun y he he' hy => ?_; (try dsimp only at he he' hy)) | (refine Y1 fun y he hy => ?_; (try with_reducible conv at he => (rhs; whnf)); (try dsimp only at he hy))) | refine F4 (fun h => ?_) fun h => ?_ | refine R1 ?_ | refine Q1 ?_ | fail)); all_goals (conv => whnf))
        refine All'.mk ?_; rintro (e' : ByteArray) he'
        obtain rfl : strOfNums v = e' := Option.some.inj (hce.symm.trans he')
        clear he'
        ((repeat' ((conv => whnf) <;> first | exact True.intro | (guard_target =~ Fork _ _ _; first | refine F1 ?_ | refine F2 ?_ | (refine Fork.pos ?_ ?_; · (simp only [hab, hfb, oa, oa', of, of', k1, k2, Bool.not_true, Bool.not_false, decide_eq_true_eq, beq_iff_eq, bne_iff_ne, ne_eq] <;> omega)) | (refine Fork.neg ?_ ?_; · (simp only [hab, hfb, oa, oa', of, of', k1, k2, Bool.not_true, Bool.not_false, decide_eq_false_iff_not, beq_eq_false_iff_ne] <;> omega)) | refine F3 (fun h => ?_) fun h => ?_) | (guard_target =~ Ar _ _ _; first | refine A1 ?_ | refine A2 ?_ | refine A3 ?_ | (refine Ar.fit (wrap_i64 ?_ ?_) ?_; · ((try dsimp only) <;> simp only [hab, hfb, oa, oa', of, of', k1, k2] <;> omega); · ((try dsimp only) <;> simp only [hab, hfb, oa, oa', of, of', k1, k2] <;> omega)) | (refine Ar.fit (wrap_u64 ?_ ?_) ?_; · ((try dsimp only) <;> simp only [hab, hfb, oa, oa', of, of', k1, k2] <;> omega); · ((try dsimp only) <;> simp only [hab, hfb, oa, oa', of, of', k1, k2] <;> omega))) | (guard_target =~ AskL _ _; first | (refine AskL.mk ?_ ?_; · ((simp only [conj]; repeat' apply And.intro) <;> first | rfl | trivial | omega | (simp only [hab, hfb, oa, oa', of, of', k1, k2]; done) | (simp only [hab, hfb, oa, oa', of, of', k1, k2] <;> omega) | (simp only [hab, hfb, oa, oa', of, of', k1, k2]; refine Bool.eq_iff_iff.2 ?_; simp only [decide_eq_true_eq, Bool.false_eq_true, true_iff, iff_true, false_iff, iff_false, eq_self]; omega) | (simp only [*, hab, hfb, oa, oa', of, of', k1, k2]; done))) | refine L1 ?_) | (guard_target =~ Go.Eng.Ask _ _; first | refine K1 ?_ | (refine Ask.mk ?_ ?_; · ((try dsimp only) <;> simp only [hab, hfb, oa, oa', of, of', k1, k2] <;> omega))) | (guard_target =~ All' _ _; first | (refine Y2 fun y he he' hy => ?_; (try dsimp only at he he' hy)) | (refine Y1 fun y he hy => ?_; (try with_reducible conv at he => (rhs; whnf)); (try dsimp only at he hy)) | (refine All'.mk ?_; intro y hy)) | refine F4 (fun h => ?_) fun h => ?_ | refine R1 ?_ | refine Q1 ?_ | fail)); all_goals (conv => whnf))
        refine CallP.mk (C := rSplitC) ⟨strOfNums v, 58⟩ ?_
        ((repeat' ((conv => whnf) <;> first | exact True.intro | (guard_target =~ Fork _ _ _; first | refine F1 ?_ | refine F2 ?_ | (refine Fork.pos ?_ ?_; · (simp only [hab, hfb, oa, oa', of, of', k1, k2, Bool.not_true, Bool.not_false, decide_eq_true_eq, beq_iff_eq, bne_iff_ne, ne_eq] <;> omega)) | (refine Fork.neg ?_ ?_; · (simp only [hab, hfb, oa, oa', of, of', k1, k2, Bool.not_true, Bool.not_false, decide_eq_false_iff_not, beq_eq_false_iff_ne] <;> omega)) | refine F3 (fun h => ?_) fun h => ?_) | (guard_target =~ Ar _ _ _; first | refine A1 ?_ | refine A2 ?_ | refine A3 ?_ | (refine Ar.fit (wrap_i64 ?_ ?_) ?_; · ((try dsimp only) <;> simp only [hab, hfb, oa, oa', of, of', k1, k2] <;> omega); · ((try dsimp only) <;> simp only [hab, hfb, oa, oa', of, of', k1, k2] <;> omega)) | (refine Ar.fit (wrap_u64 ?_ ?_) ?_; · ((try dsimp only) <;> simp only [hab, hfb, oa, oa', of, of', k1, k2] <;> omega); · ((try dsimp only) <;> simp only [hab, hfb, oa, oa', of, of', k1, k2] <;> omega))) | (guard_target =~ AskL _ _; first | (refine AskL.mk ?_ ?_; · ((simp only [conj]; repeat' apply And.intro) <;> first | rfl | trivial | omega | (simp only [hab, hfb, oa, oa', of, of', k1, k2]; done) | (simp only [hab, hfb, oa, oa', of, of', k1, k2] <;> omega) | (simp only [hab, hfb, oa, oa', of, of', k1, k2]; refine Bool.eq_iff_iff.2 ?_; simp only [decide_eq_true_eq, Bool.false_eq_true, true_iff, iff_true, false_iff, iff_false, eq_self]; omega) | (simp only [*, hab, hfb, oa, oa', of, of', k1, k2]; done))) | refine L1 ?_) | (guard_target =~ Go.Eng.Ask _ _; first | refine K1 ?_ | (refine Ask.mk ?_ ?_; · ((try dsimp only) <;> simp only [hab, hfb, oa, oa', of, of', k1, k2] <;> omega))) | (guard_target =~ All' _ _; first | (refine Y2 fun y he he' hy => ?_; (try dsimp only at he he' hy)) | (refine Y1 fun y he hy => ?_; (try with_reducible conv at he => (rhs; whnf)); (try dsimp only at he hy)) | (refine All'.mk ?_; intro y hy)) | refine F4 (fun h => ?_) fun h => ?_ | refine R1 ?_ | refine Q1 ?_ | fail)); all_goals (conv => whnf))

end Go.Proofs.YtoaaieiiamdopaaGreatDoor

set_option linter.unusedVariables false
set_option linter.unusedSimpArgs false
set_option maxRecDepth 100000
set_option maxHeartbeats 4000000
namespace Go.Proofs.YtoaaieiiamdopaaGreatDoor
open Go.Eng
variable [DM]
set_option linter.unusedSectionVars false
def okY (l : List Int) : Prop := ∀ c, c ∈ l → 0 ≤ c ∧ c < 256
/-- The value of bytes, the greatest ahead. -/
def beV (l : List Int) : Nat := l.foldl (fun u c => u * 256 + c.toNat) 0
theorem beV_snoc (l : List Int) (c : Int) : beV (l ++ [c]) = beV l * 256 + c.toNat := by unfold beV; rw [List.foldl_append]; rfl
theorem okY_take {l : List Int} (h : okY l) (i : Nat) : okY (l.take i) := fun c hc => h c (List.mem_of_mem_take hc)
theorem okY_drop {l : List Int} (h : okY l) (i : Nat) : okY (l.drop i) := fun c hc => h c (List.mem_of_mem_drop hc)
theorem beV_lt : ∀ (n : Nat) (l : List Int), l.length ≤ n → okY l → beV l < 256 ^ n
  | n, l, h, hl => by
    rcases List.eq_nil_or_concat l with rfl | ⟨m, c, rfl⟩
    · exact Nat.pow_pos (by omega)
    · rw [List.concat_eq_append] at *
      cases n with
      | zero => simp at h
      | succ n =>
        have := beV_lt n m (by simp at h; omega) (fun c hc => hl c (List.mem_append_left _ hc))
        have hc := hl c (by simp)
        rw [beV_snoc, Nat.pow_succ]; omega
termination_by n => n
theorem beL_beV : ∀ (n : Nat) (l : List Int), l.length = n → okY l → (beL (beV l)).length = l.length → beL (beV l) = l
  | 0, l, h, _, _ => by rw [List.length_eq_zero_iff.1 h]; exact beL_zero
  | n + 1, l, h, hl, he => by
    rcases List.eq_nil_or_concat l with rfl | ⟨m, c, rfl⟩
    · simp at h
    · rw [List.concat_eq_append] at *
      have hc := hl c (by simp)
      rcases Nat.eq_zero_or_pos (beV (m ++ [c])) with h0 | hp
      · rw [h0, beL_zero] at he; simp at he
      · rw [beL_pos hp]
        rw [beL_pos hp] at he
        rw [beV_snoc] at *
        have e1 : (beV m * 256 + c.toNat) / 256 = beV m := by omega
        have e2 : (beV m * 256 + c.toNat) % 256 = c.toNat := by omega
        rw [e1] at he
        rw [e1, e2, beL_beV n m (by simpa using h) (fun c hc => hl c (List.mem_append_left _ hc)) (by simpa using he)]
        congr 2; omega
def sizeV (u : Nat) : Int := if u ≤ 247 then 1 else 1 + ((beL u).length : Nat)
/-- A number's bytes, by their length. -/
theorem num_back {l : List Int} {c : Int} (hl : okY l) (hc : 248 ≤ c) (hk : (l.length : Int) = c - 247) : sizeV (beV l) = (l.length : Int) + 1 ↔ numL (beV l) = c :: l := by
  unfold sizeV numL
  by_cases h : beV l ≤ 247
  · rw [if_pos h, if_pos h]
    constructor
    · intro h2; omega
    · intro h2
      have := congrArg List.length h2
      simp only [List.length_cons, List.length_nil] at this; omega
  · rw [if_neg h, if_neg h]
    constructor
    · intro h2
      have h3 : (beL (beV l)).length = l.length := by omega
      rw [beL_beV _ l rfl hl h3]
      congr 1; omega
    · intro h2
      have := congrArg List.length h2
      simp only [List.length_cons] at this
      omega
/-- The number at the beginning, how many bytes it takes, the error. -/
def numS : List Int → Int × Int × Int
  | [] => (0, 0, 10)
  | c :: l => if c ≤ 247 then (c, 1, 0) else if (l.length : Int) < c - 247 then (0, 0, 10) else
    if numL (beV (l.take (c - 247).toNat)) = c :: l.take (c - 247).toNat then (((beV (l.take (c - 247).toNat) : Nat) : Int), c - 246, 0) else (0, 0, 11)
theorem numS_cons (c : Int) (l : List Int) : numS (c :: l) = if c ≤ 247 then (c, 1, 0) else if (l.length : Int) < c - 247 then (0, 0, 10) else
    if numL (beV (l.take (c - 247).toNat)) = c :: l.take (c - 247).toNat then (((beV (l.take (c - 247).toNat) : Nat) : Int), c - 246, 0) else (0, 0, 11) := rfl
theorem numS_rng {l : List Int} (hl : okY l) (h0 : (numS l).2.2 = 0) : 1 ≤ (numS l).2.1 ∧ (numS l).2.1 ≤ l.length ∧ 0 ≤ (numS l).1 ∧ (numS l).1 < 18446744073709551616 := by
  cases l with
  | nil => simp [numS] at h0
  | cons c l =>
    have hc := hl c (List.mem_cons_self ..)
    rw [numS_cons] at h0 ⊢
    simp only [List.length_cons]
    by_cases h1 : c ≤ 247
    · rw [if_pos h1]; dsimp only; omega
    · rw [if_neg h1] at h0 ⊢
      by_cases h2 : (l.length : Int) < c - 247
      · rw [if_pos h2] at h0; simp at h0
      · rw [if_neg h2] at h0 ⊢
        by_cases h3 : numL (beV (l.take (c - 247).toNat)) = c :: l.take (c - 247).toNat
        · rw [if_pos h3]
          have := beV_lt 8 (l.take (c - 247).toNat) (by rw [List.length_take]; omega) (okY_take (fun x hx => hl x (List.mem_cons_of_mem _ hx)) _)
          dsimp only; omega
        · rw [if_neg h3] at h0; simp at h0
theorem or_byte (u c : Nat) (hu : u < 72057594037927936) (hc : c < 256) : IntKind.u64.wrap (((BitVec.ofInt IntKind.u64.bits ((u : Int) * 256)) ||| (BitVec.ofInt IntKind.u64.bits (c : Int))).toNat : Nat) = ((u * 256 + c : Nat) : Int) := by
  have e0 : IntKind.u64.bits = 64 := rfl
  have e1 : BitVec.ofInt IntKind.u64.bits ((u : Int) * 256) = BitVec.ofNat 64 (u * 256) := by
    rw [show ((u : Int) * 256) = ((u * 256 : Nat) : Int) by push_cast; rfl]; rfl
  have e2 : BitVec.ofInt IntKind.u64.bits (c : Int) = BitVec.ofNat 64 c := rfl
  rw [e1, e2]
  have e3 : ((BitVec.ofNat 64 (u * 256)) ||| (BitVec.ofNat 64 c)).toNat = u * 256 + c := by
    rw [BitVec.toNat_or, BitVec.toNat_ofNat, BitVec.toNat_ofNat, Nat.mod_eq_of_lt (by omega), Nat.mod_eq_of_lt (by omega)]
    have := Nat.shiftLeft_add_eq_or_of_lt (a := u) (i := 8) (b := c) (by omega)
    rw [Nat.shiftLeft_eq] at this
    exact this.symm
  show IntKind.u64.wrap ((((BitVec.ofNat 64 (u * 256)) ||| (BitVec.ofNat 64 c)).toNat : Nat) : Int) = _
  rw [e3]
  exact wrap_u64 (by omega) (by omega)
@[reducible] def numberC : Ctr := {
  X := List Int
  Y := Unit
  args := fun l => [.ro true (.int .u8) l]
  rw := fun _ => []
  side := fun l => okY l ∧ l.length ≤ 9223372036854775807
  val := fun _ => ()
  ens := fun _ _ => True
  res := fun l _ => .tuple [.v (.int .u64 (numS l).1), .v (.int .i64 (numS l).2.1), .v (.int .i64 (numS l).2.2)]
  out := fun _ _ => [] }
def tlY (l : List Int) : List Int := l.tail.take (l.headD 0 - 247).toNat
@[reducible] def numberL (l : List Int) : LA := {
  X := Nat
  pre := fun i => i ≤ (tlY l).length
  mu := fun i => (tlY l).length - i
  T := fun i => [(5, .v (.int .i64 (l.headD 0 - 246))), (6, .v (.int .u64 (beV ((tlY l).take i) : Nat))), (34, .ro true (.int .u8) (tlY l)), (35, .v (.int .i64 (tlY l).length)), (36, .v (.int .i64 (i : Nat)))]
  M := fun _ => [] }
theorem knownY0 : Known Tryz.prog (gOf [(74, sizeC)]) := known_cons ⟨size_ok, Tryz.call74⟩ (known_nil _)
theorem number_ok : numberC.ok Tryz.prog 75 := by
  refine ok_of_vc (An := fun (l : List Int) => anOf [(1, .loop (numberL l))]) knownY0 mo Tryz.func75 (by kernel_rfl) (by kernel_rfl) (fun _ _ => trivial) (fun (l : List Int) hs => ?_)
  obtain ⟨hl, hlen⟩ := hs
  have hl : okY l := hl
  have hlen : l.length ≤ 9223372036854775807 := hlen
  cases l with
  | nil =>
    have hn : numS [] = (0, 0, 10) := rfl
    have hnl : ([] : List Int).length = 0 := rfl
    exact G1
  | cons c l =>
    have hc := hl c (List.mem_cons_self ..)
    have hnl : (c :: l).length = l.length + 1 := rfl
    have hw1 : IntKind.u64.wrap c = c := wrap_u64 (by omega) (by omega)
    have hw2 : IntKind.i64.wrap c = c := wrap_i64 (by omega) (by omega)
    have lm := And.intro hw1 hw2
    by_cases h1 : c ≤ 247
    · have hn : numS (c :: l) = (c, 1, 0) := if_pos h1
      ((repeat' ((conv => whnf) <;> first | exact True.intro | (guard_target =~ Fork _ _ _; first | refine F1 ?_ | refine F2 ?_ | refine F3 (fun h => ?_) fun h => ?_) | (guard_target =~ Ar _ _ _; first | refine A1 ?_ | refine A2 ?_ | refine A3 ?_) | (guard_target =~ AskL _ _; first | refine L1 ?_) | (guard_target =~ Go.Eng.Ask _ _; first | refine K1 ?_) | (guard_target =~ All' _ _; first | (refine Y2 fun y he he' hy => ?_; (try dsimp only at he he' hy)) | (refine Y1 fun y he hy => ?_; (try with_reducible conv at he => (rhs; whnf)); (try dsimp only at he hy))) | refine F4 (fun h => ?_) fun h => ?_ | refine R1 ?_ | refine Q1 ?_ | fail)); all_goals (conv => whnf))
      refine All'.mk ?_; rintro (e : Int) he
      obtain rfl : c = e := Option.some.inj he
      ((repeat' ((conv => whnf) <;> first | exact True.intro | (guard_target =~ Fork _ _ _; first | refine F1 ?_ | refine F2 ?_ | refine F3 (fun h => ?_) fun h => ?_) | (guard_target =~ Ar _ _ _; first | refine A1 ?_ | refine A2 ?_ | refine A3 ?_) | (guard_target =~ AskL _ _; first | refine L1 ?_) | (guard_target =~ Go.Eng.Ask _ _; first | refine K1 ?_) | (guard_target =~ All' _ _; first | (refine Y2 fun y he he' hy => ?_; (try dsimp only at he he' hy)) | (refine Y1 fun y he hy => ?_; (try with_reducible conv at he => (rhs; whnf)); (try dsimp only at he hy))) | refine F4 (fun h => ?_) fun h => ?_ | refine R1 ?_ | refine Q1 ?_ | fail)); all_goals (conv => whnf))
      refine All'.mk ?_; rintro (e : Int) he
      obtain rfl : c = e := Option.some.inj he
      ((repeat' ((conv => whnf) <;> first | exact True.intro | (guard_target =~ Fork _ _ _; first | refine F1 ?_ | refine F2 ?_ | refine F3 (fun h => ?_) fun h => ?_) | (guard_target =~ Ar _ _ _; first | refine A1 ?_ | refine A2 ?_ | refine A3 ?_) | (guard_target =~ Go.Eng.Ask _ _; first | refine K1 ?_) | (guard_target =~ All' _ _; first | (refine Y2 fun y he he' hy => ?_; (try dsimp only at he he' hy)) | (refine Y1 fun y he hy => ?_; (try with_reducible conv at he => (rhs; whnf)); (try dsimp only at he hy)) | (refine All'.mk ?_; intro y hy)) | refine F4 (fun h => ?_) fun h => ?_ | refine R1 ?_ | refine Q1 ?_ | fail)); all_goals (conv => whnf))
      refine AskL.mk ?_ trivial
      dsimp only [conj]
      rw [hn]
      exact ⟨⟨hw1, rfl⟩, rfl⟩
    · by_cases h2 : (l.length : Int) < c - 247
      · have hn : numS (c :: l) = (0, 0, 10) := by rw [numS_cons, if_neg h1, if_pos h2]
        ((repeat' ((conv => whnf) <;> first | exact True.intro | (guard_target =~ Fork _ _ _; first | refine F1 ?_ | refine F2 ?_ | refine F3 (fun h => ?_) fun h => ?_) | (guard_target =~ Ar _ _ _; first | refine A1 ?_ | refine A2 ?_ | refine A3 ?_) | (guard_target =~ AskL _ _; first | refine L1 ?_) | (guard_target =~ Go.Eng.Ask _ _; first | refine K1 ?_) | (guard_target =~ All' _ _; first | (refine Y2 fun y he he' hy => ?_; (try dsimp only at he he' hy)) | (refine Y1 fun y he hy => ?_; (try with_reducible conv at he => (rhs; whnf)); (try dsimp only at he hy))) | refine F4 (fun h => ?_) fun h => ?_ | refine R1 ?_ | refine Q1 ?_ | fail)); all_goals (conv => whnf))
        refine All'.mk ?_; rintro (e : Int) he
        obtain rfl : c = e := Option.some.inj he
        ((repeat' ((conv => whnf) <;> first | exact True.intro | (guard_target =~ Fork _ _ _; first | refine F1 ?_ | refine F2 ?_ | refine F3 (fun h => ?_) fun h => ?_) | (guard_target =~ Ar _ _ _; first | refine A1 ?_ | refine A2 ?_ | refine A3 ?_) | (guard_target =~ AskL _ _; first | refine L1 ?_) | (guard_target =~ Go.Eng.Ask _ _; first | refine K1 ?_) | (guard_target =~ All' _ _; first | (refine Y2 fun y he he' hy => ?_; (try dsimp only at he he' hy)) | (refine Y1 fun y he hy => ?_; (try with_reducible conv at he => (rhs; whnf)); (try dsimp only at he hy))) | refine F4 (fun h => ?_) fun h => ?_ | refine R1 ?_ | refine Q1 ?_ | fail)); all_goals (conv => whnf))
        refine All'.mk ?_; rintro (e : Int) he
        obtain rfl : c = e := Option.some.inj he
        exact G1
      · ((repeat' ((conv => whnf) <;> first | exact True.intro | (guard_target =~ Fork _ _ _; first | refine F1 ?_ | refine F2 ?_ | refine F3 (fun h => ?_) fun h => ?_) | (guard_target =~ Ar _ _ _; first | refine A1 ?_ | refine A2 ?_ | refine A3 ?_) | (guard_target =~ AskL _ _; first | refine L1 ?_) | (guard_target =~ Go.Eng.Ask _ _; first | refine K1 ?_) | (guard_target =~ All' _ _; first | (refine Y2 fun y he he' hy => ?_; (try dsimp only at he he' hy)) | (refine Y1 fun y he hy => ?_; (try with_reducible conv at he => (rhs; whnf)); (try dsimp only at he hy))) | refine F4 (fun h => ?_) fun h => ?_ | refine R1 ?_ | refine Q1 ?_ | fail)); all_goals (conv => whnf))
        refine All'.mk ?_; rintro (e : Int) he
        obtain rfl : c = e := Option.some.inj he
        ((repeat' ((conv => whnf) <;> first | exact True.intro | (guard_target =~ Fork _ _ _; first | refine F1 ?_ | refine F2 ?_ | refine F3 (fun h => ?_) fun h => ?_) | (guard_target =~ Ar _ _ _; first | refine A1 ?_ | refine A2 ?_ | refine A3 ?_) | (guard_target =~ AskL _ _; first | refine L1 ?_) | (guard_target =~ Go.Eng.Ask _ _; first | refine K1 ?_) | (guard_target =~ All' _ _; first | (refine Y2 fun y he he' hy => ?_; (try dsimp only at he he' hy)) | (refine Y1 fun y he hy => ?_; (try with_reducible conv at he => (rhs; whnf)); (try dsimp only at he hy))) | refine F4 (fun h => ?_) fun h => ?_ | refine R1 ?_ | refine Q1 ?_ | fail)); all_goals (conv => whnf))
        refine All'.mk ?_; rintro (e : Int) he
        obtain rfl : c = e := Option.some.inj he
        ((repeat' ((conv => whnf) <;> first | exact True.intro | (guard_target =~ Fork _ _ _; first | refine F1 ?_ | refine F2 ?_ | refine F3 (fun h => ?_) fun h => ?_) | (guard_target =~ Ar _ _ _; first | refine A1 ?_ | refine A2 ?_ | refine A3 ?_) | (guard_target =~ AskL _ _; first | refine L1 ?_) | (guard_target =~ Go.Eng.Ask _ _; first | refine K1 ?_) | (guard_target =~ All' _ _; first | (refine Y2 fun y he he' hy => ?_; (try dsimp only at he he' hy)) | (refine Y1 fun y he hy => ?_; (try with_reducible conv at he => (rhs; whnf)); (try dsimp only at he hy))) | refine F4 (fun h => ?_) fun h => ?_ | refine R1 ?_ | refine Q1 ?_ | fail)); all_goals (conv => whnf))
        have hm : ((c :: l).take (1 + c - 247).toNat).drop (Int.toNat 1) = tlY (c :: l) := by
          show ((c :: l).take (1 + c - 247).toNat).drop 1 = l.take (c - 247).toNat
          rw [show (1 + c - 247).toNat = (c - 247).toNat + 1 by omega]; rfl
        have hml : (tlY (c :: l)).length = (c - 247).toNat := by show (l.take (c - 247).toNat).length = _; rw [List.length_take]; omega
        have hmo : okY (tlY (c :: l)) := okY_take (fun x hx => hl x (List.mem_cons_of_mem _ hx)) _
        have hn : numS (c :: l) = if numL (beV (tlY (c :: l))) = c :: tlY (c :: l) then (((beV (tlY (c :: l)) : Nat) : Int), c - 246, 0) else (0, 0, 11) := by rw [numS_cons, if_neg h1, if_neg h2]; rfl
        refine Some'.mk (0 : Nat) ?_
        ((repeat' ((conv => whnf) <;> first | exact True.intro | (guard_target =~ Fork _ _ _; first | refine F1 ?_ | refine F2 ?_ | refine F3 (fun h => ?_) fun h => ?_) | (guard_target =~ Ar _ _ _; first | refine A1 ?_ | refine A2 ?_ | refine A3 ?_) | (guard_target =~ Go.Eng.Ask _ _; first | refine K1 ?_) | (guard_target =~ All' _ _; first | (refine Y2 fun y he he' hy => ?_; (try dsimp only at he he' hy)) | (refine Y1 fun y he hy => ?_; (try with_reducible conv at he => (rhs; whnf)); (try dsimp only at he hy)) | (refine All'.mk ?_; intro y hy)) | refine F4 (fun h => ?_) fun h => ?_ | refine R1 ?_ | refine Q1 ?_ | fail)); all_goals (conv => whnf))
        refine AskL.mk ?_ ?_
        · (dsimp only [conj]; repeat' apply And.intro) <;> first | rfl | (show 1 + IntKind.i64.wrap c - 247 = c - 246; rw [hw2]; omega) | (show SV.ro true (Ty.int .u8) (List.drop (Int.toNat 1) (List.take (1 + IntKind.i64.wrap c - 247).toNat (c :: l))) = _; rw [hw2]; exact congrArg (SV.ro true (Ty.int .u8)) hm) | (show ((List.drop (Int.toNat 1) (List.take (1 + IntKind.i64.wrap c - 247).toNat (c :: l))).length : Int) = _; rw [hw2, hm])
        refine Ask.mk (Nat.zero_le _) ?_
        refine AllI.mk ?_
        rintro (i : Nat) hi
        ((repeat' ((conv => whnf) <;> first | exact True.intro | (guard_target =~ Fork _ _ _; first | refine F1 ?_ | refine F2 ?_ | refine F3 (fun h => ?_) fun h => ?_) | (guard_target =~ Ar _ _ _; first | refine A1 ?_ | refine A2 ?_ | refine A3 ?_) | (guard_target =~ AskL _ _; first | refine L1 ?_) | (guard_target =~ Go.Eng.Ask _ _; first | refine K1 ?_) | (guard_target =~ All' _ _; first | (refine Y2 fun y he he' hy => ?_; (try dsimp only at he he' hy)) | (refine Y1 fun y he hy => ?_; (try with_reducible conv at he => (rhs; whnf)); (try dsimp only at he hy))) | refine F4 (fun h => ?_) fun h => ?_ | refine R1 ?_ | refine Q1 ?_ | fail)); all_goals (conv => whnf))
        · refine All'.mk ?_; rintro (e : Int) he
          have he : (tlY (c :: l))[i]? = some e := he
          have hem : 0 ≤ e ∧ e < 256 := hmo e (List.mem_of_getElem? he)
          have hil : i < (tlY (c :: l)).length := (List.getElem?_eq_some_iff.1 he).1
          have ht : (tlY (c :: l)).take (i + 1) = (tlY (c :: l)).take i ++ [e] := by rw [List.take_add_one, he]; rfl
          have hb : beV ((tlY (c :: l)).take i) < 72057594037927936 := by
            have := beV_lt 7 ((tlY (c :: l)).take i) (by rw [List.length_take]; omega) (okY_take hmo _)
            omega
          have hm0 : (numberL (c :: l)).pre (i + 1) := hil
          have hwe : IntKind.u64.wrap e = e := wrap_u64 (by omega) (by omega)
          have hen : (e.toNat : Int) = e := by omega
          have h8 : ((beV ((tlY (c :: l)).take i) : Nat) : Int) * 2 ^ min (Int.toNat 8) IntKind.u64.bits = ((beV ((tlY (c :: l)).take i) : Nat) : Int) * 256 := rfl
          have hwf : IntKind.u64.wrap (((beV ((tlY (c :: l)).take i) : Nat) : Int) * 256) = ((beV ((tlY (c :: l)).take i) : Nat) : Int) * 256 := wrap_u64 (by omega) (by omega)
          have hor := or_byte (beV ((tlY (c :: l)).take i)) e.toNat hb (by omega)
          rw [hen, ← beV_snoc, ← ht] at hor
          rw [← hwe] at hor
          ((repeat' ((conv => whnf) <;> first | exact True.intro | (guard_target =~ Fork _ _ _; first | refine F1 ?_ | refine F2 ?_ | refine F3 (fun h => ?_) fun h => ?_) | (guard_target =~ Ar _ _ _; first | refine A1 ?_ | refine A2 ?_ | refine A3 ?_) | (guard_target =~ AskL _ _; first | refine L1 ?_) | (guard_target =~ Go.Eng.Ask _ _; first | refine K1 ?_) | (guard_target =~ All' _ _; first | (refine Y2 fun y he he' hy => ?_; (try dsimp only at he he' hy)) | (refine Y1 fun y he hy => ?_; (try with_reducible conv at he => (rhs; whnf)); (try dsimp only at he hy))) | refine F4 (fun h => ?_) fun h => ?_ | refine R1 ?_ | refine Q1 ?_ | fail)); all_goals (conv => whnf))
          refine Some'.mk (i + 1) ?_
          have hmu : (numberL (c :: l)).mu (i + 1) < (numberL (c :: l)).mu i := by show (tlY (c :: l)).length - (i + 1) < (tlY (c :: l)).length - i; omega
          ((repeat' ((conv => whnf) <;> first | exact True.intro | (guard_target =~ Fork _ _ _; first | refine F1 ?_ | refine F2 ?_ | refine F3 (fun h => ?_) fun h => ?_) | (guard_target =~ Ar _ _ _; first | refine A1 ?_ | refine A2 ?_ | refine A3 ?_) | (guard_target =~ Go.Eng.Ask _ _; first | refine K1 ?_) | (guard_target =~ All' _ _; first | (refine Y2 fun y he he' hy => ?_; (try dsimp only at he he' hy)) | (refine Y1 fun y he hy => ?_; (try with_reducible conv at he => (rhs; whnf)); (try dsimp only at he hy)) | (refine All'.mk ?_; intro y hy)) | refine F4 (fun h => ?_) fun h => ?_ | refine R1 ?_ | refine Q1 ?_ | fail)); all_goals (conv => whnf))
          refine AskL.mk ?_ (Ask.mk hm0 (Ask.mk hmu trivial))
          (dsimp only [conj]; repeat' apply And.intro) <;> first | rfl | exact hor
        · have hie : i = (tlY (c :: l)).length := by
            have : i ≤ (tlY (c :: l)).length := hi
            omega
          subst hie
          have hb := beV_lt 8 (tlY (c :: l)) (by omega) hmo
          have htk : (tlY (c :: l)).take (tlY (c :: l)).length = tlY (c :: l) := List.take_length
          rw [htk]
          have hzb := num_back (c := c) hmo (by omega) (by omega)
          refine CallP.mk (C := sizeC) (beV (tlY (c :: l))) ?_
          have hb : beV (tlY (c :: l)) < 18446744073709551616 := by omega
          refine AskL.mk rfl (Ask.mk hb (All'.mk ?_))
          rintro (sz : Int) ⟨hsz, -⟩
          have hsz : sz = sizeV (beV (tlY (c :: l))) := hsz
          rw [← hsz] at hzb
          clear hsz
          ((repeat' ((conv => whnf) <;> first | exact True.intro | (guard_target =~ Fork _ _ _; first | refine F1 ?_ | refine F2 ?_ | refine F3 (fun h => ?_) fun h => ?_) | (guard_target =~ Ar _ _ _; first | refine A1 ?_ | refine A2 ?_ | refine A3 ?_) | (guard_target =~ Go.Eng.Ask _ _; first | refine K1 ?_) | (guard_target =~ All' _ _; first | (refine Y2 fun y he he' hy => ?_; (try dsimp only at he he' hy)) | (refine Y1 fun y he hy => ?_; (try with_reducible conv at he => (rhs; whnf)); (try dsimp only at he hy)) | (refine All'.mk ?_; intro y hy)) | refine F4 (fun h => ?_) fun h => ?_ | refine R1 ?_ | refine Q1 ?_ | fail)); all_goals (conv => whnf))
          · refine AskL.mk ?_ trivial
            dsimp only [conj]
            have hne : ¬ numL (beV (tlY (c :: l))) = c :: tlY (c :: l) := fun h9 => by
              have h8 := hzb.2 h9
              have h7 : ¬sz = c - 246 := h
              omega
            rw [hn, if_neg hne]
            exact ⟨⟨rfl, rfl⟩, rfl⟩
          · refine AskL.mk ?_ trivial
            dsimp only [conj]
            have hne : numL (beV (tlY (c :: l))) = c :: tlY (c :: l) := hzb.1 (by
              have h7 : sz = c - 246 := h
              omega)
            rw [hn, if_pos hne, htk]
            exact ⟨⟨rfl, rfl⟩, rfl⟩
end Go.Proofs.YtoaaieiiamdopaaGreatDoor

set_option linter.unusedVariables false
set_option linter.unusedSimpArgs false
set_option maxRecDepth 100000
set_option maxHeartbeats 4000000
namespace Go.Proofs.YtoaaieiiamdopaaGreatDoor
open Go.Eng
variable [DM]
set_option linter.unusedSectionVars false
@[reducible] def cloneFC : Ctr := { cloneBC with res := fun x _ => .ro false (.int .u8) x, out := fun _ _ => [] }
theorem cloneF_ok : cloneFC.ok Tryz.prog 49 := ctr_freeze (C := cloneBC) (fun _ => rfl) (fun _ => rfl) cloneB_ok
/-- An eye's memory: the bytes that are left, the error. -/
@[reducible] def eyeE (j : Nat) (l : List Int) (e : Int) : En := [(j, .cells 73 [.ro false (.int .u8) l, .v (.int .i64 e)])]
@[reducible] def readC : Ctr := {
  X := List Int
  Y := Unit
  args := fun x => [.ro true (.int .u8) x]
  rw := fun _ => []
  side := fun x => x.length ≤ 274877906944
  val := fun _ => ()
  ens := fun _ _ => True
  res := fun _ _ => .ptr 1000 0
  out := fun x _ => eyeE 1000 x 0 }
theorem knownY1 : Known Tryz.prog (gOf [(49, cloneFC)]) := known_cons ⟨cloneF_ok, Tryz.call49⟩ (known_nil _)
theorem read_ok : readC.ok Tryz.prog 13 := by
  refine ok_of_vc (An := fun _ => anOf []) knownY1 mo Tryz.func13 (by kernel_rfl) (by kernel_rfl) (fun _ _ => trivial) (fun (x : List Int) hs => ?_)
  have hs : x.length ≤ 274877906944 := hs
  ((repeat' ((conv => whnf) <;> first | exact True.intro | (guard_target =~ Fork _ _ _; first | refine F1 ?_ | refine F2 ?_ | refine F3 (fun h => ?_) fun h => ?_) | (guard_target =~ Ar _ _ _; first | refine A1 ?_ | refine A2 ?_ | refine A3 ?_) | (guard_target =~ AskL _ _; first | refine L1 ?_) | (guard_target =~ Go.Eng.Ask _ _; first | refine K1 ?_) | (guard_target =~ All' _ _; first | (refine Y2 fun y he he' hy => ?_; (try dsimp only at he he' hy)) | (refine Y1 fun y he hy => ?_; (try with_reducible conv at he => (rhs; whnf)); (try dsimp only at he hy)) | (refine All'.mk ?_; intro y hy)) | refine F4 (fun h => ?_) fun h => ?_ | refine R1 ?_ | refine Q1 ?_ | fail)); all_goals (conv => whnf))
  refine CallP.mk (C := cloneFC) x ?_
  exact G1

structure EyX where
  l : List Int
  e : Int
@[reducible] def errC : Ctr := {
  X := EyX
  Y := Unit
  args := fun x => [.ptr 0 0]
  rw := fun x => eyeE 0 x.l x.e
  side := fun _ => True
  val := fun _ => ()
  ens := fun _ _ => True
  res := fun x _ => .v (.int .i64 x.e)
  out := fun x _ => eyeE 0 x.l x.e }
theorem err_ok : errC.ok Tryz.prog 20 := by
  refine ok_of_vc (An := fun _ => anOf []) (known_nil _) mo Tryz.func20 (by kernel_rfl) (by kernel_rfl) (fun _ _ => trivial) (fun (x : EyX) hs => ?_)
  exact G1
@[reducible] def leftC : Ctr := { errC with side := fun x => x.l.length ≤ 274877906944, res := fun x _ => .v (.int .i64 (x.l.length : Nat)) }
theorem left_ok : leftC.ok Tryz.prog 21 := by
  refine ok_of_vc (An := fun _ => anOf []) (known_nil _) mo Tryz.func21 (by kernel_rfl) (by kernel_rfl) (fun _ _ => trivial) (fun (x : EyX) hs => ?_)
  exact G1
/-- After a fault. -/
def failL (x : EyX) (f : Int) : List Int := if x.e = 0 ∧ f ≠ 0 then [] else x.l
def failE (x : EyX) (f : Int) : Int := if x.e = 0 ∧ f ≠ 0 then f else x.e
@[reducible] def failC : Ctr := {
  X := EyX × Int
  Y := Unit
  args := fun x => [.ptr 0 0, .v (.int .i64 x.2)]
  rw := fun x => eyeE 0 x.1.l x.1.e
  side := fun _ => True
  val := fun _ => ()
  ens := fun _ _ => True
  res := fun x _ => .tuple []
  out := fun x _ => eyeE 0 (failL x.1 x.2) (failE x.1 x.2) }
theorem fail_ok : failC.ok Tryz.prog 51 := by
  refine ok_of_vc (An := fun _ => anOf []) (known_nil _) mo Tryz.func51 (by kernel_rfl) (by kernel_rfl) (fun _ _ => trivial) (fun (x : EyX × Int) hs => ?_)
  obtain ⟨⟨l, e⟩, f⟩ := x
  by_cases h1 : e = 0
  · by_cases h2 : f = 0
    · have k1 : failL ⟨l, e⟩ f = l := if_neg (by simp [h2])
      have k2 : failE ⟨l, e⟩ f = e := if_neg (by simp [h2])
      have lm := And.intro k1 k2
      exact G1
    · have k1 : failL ⟨l, e⟩ f = [] := if_pos ⟨h1, h2⟩
      have k2 : failE ⟨l, e⟩ f = f := if_pos ⟨h1, h2⟩
      have lm := And.intro k1 k2
      exact G1
  · have k1 : failL ⟨l, e⟩ f = l := if_neg (by simp [h1])
    have k2 : failE ⟨l, e⟩ f = e := if_neg (by simp [h1])
    have lm := And.intro k1 k2
    exact G1
@[reducible] def takeC : Ctr := {
  X := EyX × Int
  Y := Unit
  args := fun x => [.ptr 0 0, .v (.int .i64 x.2)]
  rw := fun x => eyeE 0 x.1.l x.1.e
  side := fun x => 0 ≤ x.2 ∧ x.2 ≤ (x.1.l.length : Nat) ∧ x.1.l.length ≤ 274877906944
  val := fun _ => ()
  ens := fun _ _ => True
  res := fun x _ => .ro false (.int .u8) (x.1.l.take x.2.toNat)
  out := fun x _ => eyeE 0 (x.1.l.drop x.2.toNat) x.1.e }
theorem take_ok : takeC.ok Tryz.prog 76 := by
  refine ok_of_vc (An := fun _ => anOf []) (known_nil _) mo Tryz.func76 (by kernel_rfl) (by kernel_rfl) (fun _ _ => trivial) (fun (x : EyX × Int) hs => ?_)
  obtain ⟨⟨l, e⟩, n⟩ := x
  have hs : 0 ≤ n ∧ n ≤ (l.length : Nat) ∧ l.length ≤ 274877906944 := hs
  have h1 : l.take ((l.length : Nat) : Int).toNat = l := by rw [Int.toNat_natCast, List.take_length]
  ((repeat' ((conv => whnf) <;> first | exact True.intro | (guard_target =~ Fork _ _ _; first | refine F1 ?_ | refine F2 ?_ | refine F3 (fun h => ?_) fun h => ?_) | (guard_target =~ Ar _ _ _; first | refine A1 ?_ | refine A2 ?_ | refine A3 ?_) | (guard_target =~ Go.Eng.Ask _ _; first | refine K1 ?_) | (guard_target =~ All' _ _; first | (refine Y2 fun y he he' hy => ?_; (try dsimp only at he he' hy)) | (refine Y1 fun y he hy => ?_; (try with_reducible conv at he => (rhs; whnf)); (try dsimp only at he hy)) | (refine All'.mk ?_; intro y hy)) | refine F4 (fun h => ?_) fun h => ?_ | refine R1 ?_ | refine Q1 ?_ | fail)); all_goals (conv => whnf))
  refine AskL.mk ?_ trivial
  dsimp only [conj]
  rw [h1]
  exact ⟨⟨rfl, rfl⟩, rfl⟩

def numF (l : List Int) (m : Int) : Int := if (numS l).2.2 = 0 ∧ m < (numS l).1 then 12 else (numS l).2.2
/-- What Number answers, and what is left. -/
def eyS (x : EyX) (m : Int) : Int × EyX := if x.e = 0 then (if numF x.l m = 0 then ((numS x.l).1, ⟨x.l.drop (numS x.l).2.1.toNat, 0⟩) else (0, ⟨[], numF x.l m⟩)) else (0, x)
@[reducible] def eyNumC : Ctr := {
  X := EyX × Int
  Y := Unit
  args := fun x => [.ptr 0 0, .v (.int .u64 x.2)]
  rw := fun x => eyeE 0 x.1.l x.1.e
  side := fun x => okY x.1.l ∧ x.1.l.length ≤ 274877906944
  val := fun _ => ()
  ens := fun _ _ => True
  res := fun x _ => .v (.int .u64 (eyS x.1 x.2).1)
  out := fun x _ => eyeE 0 (eyS x.1 x.2).2.l (eyS x.1 x.2).2.e }
theorem knownY2 : Known Tryz.prog (gOf [(75, numberC), (51, failC), (76, takeC)]) :=
  known_cons ⟨number_ok, Tryz.call75⟩ (known_cons ⟨fail_ok, Tryz.call51⟩ (known_cons ⟨take_ok, Tryz.call76⟩ (known_nil _)))
theorem eyNum_ok : eyNumC.ok Tryz.prog 50 := by
  refine ok_of_vc (An := fun _ => anOf []) knownY2 mo Tryz.func50 (by kernel_rfl) (by kernel_rfl) (fun _ _ => trivial) (fun (x : EyX × Int) hs => ?_)
  obtain ⟨⟨l, e⟩, m⟩ := x
  obtain ⟨hl, hlen⟩ := hs
  have hl : okY l := hl
  have hlen : l.length ≤ 274877906944 := hlen
  by_cases h1 : e = 0
  · subst h1
    have hok : okY l ∧ l.length ≤ 9223372036854775807 := ⟨hl, by omega⟩
    have hrg : (numS l).2.2 = 0 → 1 ≤ (numS l).2.1 ∧ (numS l).2.1 ≤ l.length ∧ 0 ≤ (numS l).1 ∧ (numS l).1 < 18446744073709551616 := numS_rng hl
    by_cases h2 : (numS l).2.2 = 0
    · have hrg := hrg h2
      by_cases h3 : m < (numS l).1
      · have k0 : numF l m = 12 := if_pos ⟨h2, h3⟩
        have k1 : eyS ⟨l, 0⟩ m = (0, ⟨[], 12⟩) := by unfold eyS; rw [if_pos rfl, if_neg (by rw [k0]; decide), k0]
        have k2 : failL ⟨l, 0⟩ 12 = [] := if_pos ⟨rfl, by decide⟩
        have k3 : failE ⟨l, 0⟩ 12 = 12 := if_pos ⟨rfl, by decide⟩
        have lm := And.intro k1 (And.intro k2 k3)
        ((repeat' ((conv => whnf) <;> first | exact True.intro | (guard_target =~ Fork _ _ _; first | refine F1 ?_ | refine F2 ?_ | refine F3 (fun h => ?_) fun h => ?_) | (guard_target =~ Ar _ _ _; first | refine A1 ?_ | refine A2 ?_ | refine A3 ?_) | (guard_target =~ AskL _ _; first | refine L1 ?_) | (guard_target =~ Go.Eng.Ask _ _; first | refine K1 ?_) | (guard_target =~ All' _ _; first | (refine Y2 fun y he he' hy => ?_; (try dsimp only at he he' hy)) | (refine Y1 fun y he hy => ?_; (try with_reducible conv at he => (rhs; whnf)); (try dsimp only at he hy)) | (refine All'.mk ?_; intro y hy)) | refine F4 (fun h => ?_) fun h => ?_ | refine R1 ?_ | refine Q1 ?_ | fail)); all_goals (conv => whnf))
        refine CallP.mk (C := numberC) l ?_
        ((repeat' ((conv => whnf) <;> first | exact True.intro | (guard_target =~ Fork _ _ _; first | refine F1 ?_ | refine F2 ?_ | refine F3 (fun h => ?_) fun h => ?_) | (guard_target =~ Ar _ _ _; first | refine A1 ?_ | refine A2 ?_ | refine A3 ?_) | (guard_target =~ AskL _ _; first | refine L1 ?_) | (guard_target =~ Go.Eng.Ask _ _; first | refine K1 ?_) | (guard_target =~ All' _ _; first | (refine Y2 fun y he he' hy => ?_; (try dsimp only at he he' hy)) | (refine Y1 fun y he hy => ?_; (try with_reducible conv at he => (rhs; whnf)); (try dsimp only at he hy)) | (refine All'.mk ?_; intro y hy)) | refine F4 (fun h => ?_) fun h => ?_ | refine R1 ?_ | refine Q1 ?_ | fail)); all_goals (conv => whnf))
        refine CallP.mk (C := failC) (⟨l, 0⟩, 12) ?_
        exact G1
      · have k0 : numF l m = 0 := by unfold numF; rw [if_neg (by omega), h2]
        have k1 : eyS ⟨l, 0⟩ m = ((numS l).1, ⟨l.drop (numS l).2.1.toNat, 0⟩) := by unfold eyS; rw [if_pos rfl, if_pos k0]
        have lm := k1
        ((repeat' ((conv => whnf) <;> first | exact True.intro | (guard_target =~ Fork _ _ _; first | refine F1 ?_ | refine F2 ?_ | refine F3 (fun h => ?_) fun h => ?_) | (guard_target =~ Ar _ _ _; first | refine A1 ?_ | refine A2 ?_ | refine A3 ?_) | (guard_target =~ AskL _ _; first | refine L1 ?_) | (guard_target =~ Go.Eng.Ask _ _; first | refine K1 ?_) | (guard_target =~ All' _ _; first | (refine Y2 fun y he he' hy => ?_; (try dsimp only at he he' hy)) | (refine Y1 fun y he hy => ?_; (try with_reducible conv at he => (rhs; whnf)); (try dsimp only at he hy)) | (refine All'.mk ?_; intro y hy)) | refine F4 (fun h => ?_) fun h => ?_ | refine R1 ?_ | refine Q1 ?_ | fail)); all_goals (conv => whnf))
        refine CallP.mk (C := numberC) l ?_
        ((repeat' ((conv => whnf) <;> first | exact True.intro | (guard_target =~ Fork _ _ _; first | refine F1 ?_ | refine F2 ?_ | refine F3 (fun h => ?_) fun h => ?_) | (guard_target =~ Ar _ _ _; first | refine A1 ?_ | refine A2 ?_ | refine A3 ?_) | (guard_target =~ AskL _ _; first | refine L1 ?_) | (guard_target =~ Go.Eng.Ask _ _; first | refine K1 ?_) | (guard_target =~ All' _ _; first | (refine Y2 fun y he he' hy => ?_; (try dsimp only at he he' hy)) | (refine Y1 fun y he hy => ?_; (try with_reducible conv at he => (rhs; whnf)); (try dsimp only at he hy)) | (refine All'.mk ?_; intro y hy)) | refine F4 (fun h => ?_) fun h => ?_ | refine R1 ?_ | refine Q1 ?_ | fail)); all_goals (conv => whnf))
        have ht : 0 ≤ (numS l).2.1 ∧ (numS l).2.1 ≤ (l.length : Nat) ∧ l.length ≤ 274877906944 := ⟨by omega, hrg.2.1, hlen⟩
        refine CallP.mk (C := takeC) (⟨l, 0⟩, (numS l).2.1) ?_
        exact G1
    · have k0 : numF l m = (numS l).2.2 := by unfold numF; rw [if_neg (by omega)]
      have k1 : eyS ⟨l, 0⟩ m = (0, ⟨[], (numS l).2.2⟩) := by unfold eyS; rw [if_pos rfl, if_neg (by rw [k0]; exact h2), k0]
      have k2 : failL ⟨l, 0⟩ (numS l).2.2 = [] := if_pos ⟨rfl, h2⟩
      have k3 : failE ⟨l, 0⟩ (numS l).2.2 = (numS l).2.2 := if_pos ⟨rfl, h2⟩
      have lm := And.intro k1 (And.intro k2 k3)
      ((repeat' ((conv => whnf) <;> first | exact True.intro | (guard_target =~ Fork _ _ _; first | refine F1 ?_ | refine F2 ?_ | refine F3 (fun h => ?_) fun h => ?_) | (guard_target =~ Ar _ _ _; first | refine A1 ?_ | refine A2 ?_ | refine A3 ?_) | (guard_target =~ AskL _ _; first | refine L1 ?_) | (guard_target =~ Go.Eng.Ask _ _; first | refine K1 ?_) | (guard_target =~ All' _ _; first | (refine Y2 fun y he he' hy => ?_; (try dsimp only at he he' hy)) | (refine Y1 fun y he hy => ?_; (try with_reducible conv at he => (rhs; whnf)); (try dsimp only at he hy)) | (refine All'.mk ?_; intro y hy)) | refine F4 (fun h => ?_) fun h => ?_ | refine R1 ?_ | refine Q1 ?_ | fail)); all_goals (conv => whnf))
      refine CallP.mk (C := numberC) l ?_
      ((repeat' ((conv => whnf) <;> first | exact True.intro | (guard_target =~ Fork _ _ _; first | refine F1 ?_ | refine F2 ?_ | refine F3 (fun h => ?_) fun h => ?_) | (guard_target =~ Ar _ _ _; first | refine A1 ?_ | refine A2 ?_ | refine A3 ?_) | (guard_target =~ AskL _ _; first | refine L1 ?_) | (guard_target =~ Go.Eng.Ask _ _; first | refine K1 ?_) | (guard_target =~ All' _ _; first | (refine Y2 fun y he he' hy => ?_; (try dsimp only at he he' hy)) | (refine Y1 fun y he hy => ?_; (try with_reducible conv at he => (rhs; whnf)); (try dsimp only at he hy)) | (refine All'.mk ?_; intro y hy)) | refine F4 (fun h => ?_) fun h => ?_ | refine R1 ?_ | refine Q1 ?_ | fail)); all_goals (conv => whnf))
      refine CallP.mk (C := failC) (⟨l, 0⟩, (numS l).2.2) ?_
      exact G1
  · have k1 : eyS ⟨l, e⟩ m = (0, ⟨l, e⟩) := if_neg h1
    have lm := k1
    exact G1
end Go.Proofs.YtoaaieiiamdopaaGreatDoor

set_option linter.unusedVariables false
set_option linter.unusedSimpArgs false
set_option maxRecDepth 100000
set_option maxHeartbeats 4000000
namespace Go.Proofs.YtoaaieiiamdopaaGreatDoor
open Go.Eng
theorem str_extract (l : List Int) (a b : Nat) : (strOfNums l).extract a b = strOfNums ((l.take b).drop a) := by
  have e : ∀ l : List Int, (strOfNums l).data.toList = l.map fun n => UInt8.ofNat n.toNat := fun l => strOfNums_data l
  refine ByteArray.ext (Array.toList_inj.1 ?_)
  rw [e, ByteArray.data_extract, Array.toList_extract, e]
  simp [List.extract_eq_take_drop, List.map_take, List.map_drop, List.drop_take]
theorem byteAt_of {l : List Int} (hl : okB l) {i : Nat} {c : Int} (h : l[i]? = some c) : byteAt (strOfNums l) i = c := by
  have hi := (List.getElem?_eq_some_iff.1 h).1
  have := byteAt_some (s := strOfNums l) (i := i) (by rw [str_size]; exact hi)
  rw [bytes_str hl, h] at this
  exact (Option.some.inj this).symm
@[reducible] def reyeE (j : Nat) (l : List Int) (e : Int) : En := [(j, .cells 41 [.v (.string (strOfNums l)), .v (.int .i64 e)])]
@[reducible] def rfailC : Ctr := {
  X := EyX × Int
  Y := Unit
  args := fun x => [.ptr 0 0, .v (.int .i64 x.2)]
  rw := fun x => reyeE 0 x.1.l x.1.e
  side := fun _ => True
  val := fun _ => ()
  ens := fun _ _ => True
  res := fun x _ => .tuple []
  out := fun x _ => reyeE 0 (failL x.1 x.2) (failE x.1 x.2) }
theorem rfail_ok : rfailC.ok Tryz.prog 53 := by
  refine ok_of_vc (An := fun _ => anOf []) (known_nil _) mo Tryz.func53 (by kernel_rfl) (by kernel_rfl) (fun _ _ => trivial) (fun (x : EyX × Int) hs => ?_)
  obtain ⟨⟨l, e⟩, f⟩ := x
  have hnil : strOfNums [] = ⟨#[]⟩ := rfl
  by_cases h1 : e = 0
  · by_cases h2 : f = 0
    · have k1 : failL ⟨l, e⟩ f = l := if_neg (by simp [h2])
      have k2 : failE ⟨l, e⟩ f = e := if_neg (by simp [h2])
      have lm := And.intro k1 k2
      exact G1
    · have k1 : failL ⟨l, e⟩ f = [] := if_pos ⟨h1, h2⟩
      have k2 : failE ⟨l, e⟩ f = f := if_pos ⟨h1, h2⟩
      have lm := And.intro k1 (And.intro k2 hnil)
      exact G1
  · have k1 : failL ⟨l, e⟩ f = l := if_neg (by simp [h1])
    have k2 : failE ⟨l, e⟩ f = e := if_neg (by simp [h1])
    have lm := And.intro k1 k2
    exact G1
@[reducible] def reyNumC : Ctr := {
  X := EyX × Int
  Y := Unit
  args := fun x => [.ptr 0 0, .v (.int .u64 x.2)]
  rw := fun x => reyeE 0 x.1.l x.1.e
  side := fun x => okY x.1.l ∧ x.1.l.length ≤ 274877906944
  val := fun _ => ()
  ens := fun _ _ => True
  res := fun x _ => .v (.int .u64 (eyS x.1 x.2).1)
  out := fun x _ => reyeE 0 (eyS x.1 x.2).2.l (eyS x.1 x.2).2.e }
theorem beL_ok : ∀ u : Nat, okB (beL u) := fun u => by
  induction u using Nat.strongRecOn with
  | _ u ih =>
    rcases Nat.eq_zero_or_pos u with rfl | hp
    · rw [beL_zero]; intro c hc; cases hc
    · rw [beL_pos hp]
      refine okB_app (ih (u / 256) (by omega)) (fun c hc => ?_)
      rcases List.mem_singleton.1 hc with rfl; omega
theorem numL_okB (u : Nat) (h : u < 18446744073709551616) : okB (numL u) := by
  unfold numL
  split
  · intro c hc; rcases List.mem_singleton.1 hc with rfl; omega
  · have := beL_lt 8 u (by omega)
    exact okB_cons (by omega) (beL_ok u)
/-- The value after i bytes. -/
def rU (l : List Int) (i : Nat) : Int := if l.headD 0 ≤ 247 then l.headD 0 else (beV ((tlY l).take i) : Nat)
@[reducible] def reyL (x : EyX × Int) : LA := {
  X := Nat
  pre := fun i => i ≤ (tlY x.1.l).length
  mu := fun i => (tlY x.1.l).length - i
  T := fun i => [(0, .ptr 0 0), (1, .v (.int .u64 x.2)), (5, .v (.int .i64 (tlY x.1.l).length)), (6, .v (.int .u64 (rU x.1.l i))), (7, .v (.int .i64 ((i + 1 : Nat) : Int)))]
  M := fun _ => reyeE 0 x.1.l x.1.e }
theorem knownY5 : Known Tryz.prog (gOf [(48, rnumC), (53, rfailC)]) :=
  known_cons ⟨rnum_ok, Tryz.call48⟩ (known_cons ⟨rfail_ok, Tryz.call53⟩ (known_nil _))
theorem reyNum_ok : reyNumC.ok Tryz.prog 52 := by
  refine ok_of_vc (An := fun x => anOf [(0, .loop (reyL x))]) knownY5 mo Tryz.func52 (by kernel_rfl) (by kernel_rfl) (fun _ _ => trivial) (fun (x : EyX × Int) hs => ?_)
  obtain ⟨⟨l, e⟩, m⟩ := x
  obtain ⟨hl, hlen⟩ := hs
  have hl : okY l := hl
  have hlen : l.length ≤ 274877906944 := hlen
  have hls : (strOfNums l).size = l.length := str_size l
  by_cases h1 : e = 0
  · subst h1
    cases l with
    | nil =>
      have k0 : numF [] m = 10 := rfl
      have k1 : eyS ⟨[], 0⟩ m = (0, ⟨[], 10⟩) := rfl
      have k2 : failL ⟨[], 0⟩ 10 = [] := if_pos ⟨rfl, by decide⟩
      have k3 : failE ⟨[], 0⟩ 10 = 10 := if_pos ⟨rfl, by decide⟩
      have hls : (strOfNums []).size = 0 := rfl
      have lm := And.intro k1 (And.intro k2 k3)
      ((repeat' ((conv => whnf) <;> first | exact True.intro | (guard_target =~ Fork _ _ _; first | refine F1 ?_ | refine F2 ?_ | refine F3 (fun h => ?_) fun h => ?_) | (guard_target =~ Ar _ _ _; first | refine A1 ?_ | refine A2 ?_ | refine A3 ?_) | (guard_target =~ AskL _ _; first | refine L1 ?_) | (guard_target =~ Go.Eng.Ask _ _; first | refine K1 ?_) | (guard_target =~ All' _ _; first | (refine Y2 fun y he he' hy => ?_; (try dsimp only at he he' hy)) | (refine Y1 fun y he hy => ?_; (try with_reducible conv at he => (rhs; whnf)); (try dsimp only at he hy)) | (refine All'.mk ?_; intro y hy)) | refine F4 (fun h => ?_) fun h => ?_ | refine R1 ?_ | refine Q1 ?_ | fail)); all_goals (conv => whnf))
      refine CallP.mk (C := rfailC) (⟨[], 0⟩, 10) ?_
      exact G1
    | cons c t =>
      have hc := hl c (List.mem_cons_self ..)
      have hb0 : byteAt (strOfNums (c :: t)) (Int.toNat 0) = c := byteAt_of hl rfl
      have hnl : (c :: t).length = t.length + 1 := rfl
      have hw1 : IntKind.u64.wrap c = c := wrap_u64 (by omega) (by omega)
      have hw2 : IntKind.i64.wrap c = c := wrap_i64 (by omega) (by omega)
      by_cases h2 : c ≤ 247
      · have hn : numS (c :: t) = (c, 1, 0) := if_pos h2
        have ht0 : tlY (c :: t) = [] := by show t.take (c - 247).toNat = []; rw [show (c - 247).toNat = 0 by omega]; rfl
        have htl : (tlY (c :: t)).length = 0 := by rw [ht0]; rfl
        have hru : rU (c :: t) 0 = c := if_pos h2
        have hcn : ((c.toNat : Nat) : Int) = c := by omega
        have hnm : numL c.toNat = [c] := by unfold numL; rw [if_pos (by omega), hcn]
        have lm := And.intro hb0 (And.intro hw1 hw2)
        ((repeat' ((conv => whnf) <;> first | exact True.intro | (guard_target =~ Fork _ _ _; first | refine F1 ?_ | refine F2 ?_ | refine F3 (fun h => ?_) fun h => ?_) | (guard_target =~ Ar _ _ _; first | refine A1 ?_ | refine A2 ?_ | refine A3 ?_) | (guard_target =~ AskL _ _; first | refine L1 ?_) | (guard_target =~ Go.Eng.Ask _ _; first | refine K1 ?_) | (guard_target =~ All' _ _; first | (refine Y2 fun y he he' hy => ?_; (try dsimp only at he he' hy)) | (refine Y1 fun y he hy => ?_; (try with_reducible conv at he => (rhs; whnf)); (try dsimp only at he hy)) | (refine All'.mk ?_; intro y hy)) | refine F4 (fun h => ?_) fun h => ?_ | refine R1 ?_ | refine Q1 ?_ | fail)); all_goals (conv => whnf))
        refine Some'.mk (0 : Nat) ?_
        ((repeat' ((conv => whnf) <;> first | exact True.intro | (guard_target =~ Fork _ _ _; first | refine F1 ?_ | refine F2 ?_ | refine F3 (fun h => ?_) fun h => ?_) | (guard_target =~ Ar _ _ _; first | refine A1 ?_ | refine A2 ?_ | refine A3 ?_) | (guard_target =~ Go.Eng.Ask _ _; first | refine K1 ?_) | (guard_target =~ All' _ _; first | (refine Y2 fun y he he' hy => ?_; (try dsimp only at he he' hy)) | (refine Y1 fun y he hy => ?_; (try with_reducible conv at he => (rhs; whnf)); (try dsimp only at he hy)) | (refine All'.mk ?_; intro y hy)) | refine F4 (fun h => ?_) fun h => ?_ | refine R1 ?_ | refine Q1 ?_ | fail)); all_goals (conv => whnf))
        refine AskL.mk ?_ (Ask.mk (Nat.zero_le _) ?_)
        · (dsimp only [conj]; repeat' apply And.intro) <;> first | rfl | (show _ = (((tlY (c :: t)).length : Nat) : Int); rw [htl]; rfl) | (show IntKind.u64.wrap (byteAt (strOfNums (c :: t)) (Int.toNat 0)) = rU (c :: t) 0; rw [hb0, hw1, hru])
        refine AllI.mk ?_
        rintro (i : Nat) hi
        have hi : i = 0 := by
          have : i ≤ (tlY (c :: t)).length := hi
          omega
        subst hi
        have hex : (strOfNums (c :: t)).extract (Int.toNat 0) (1 + (((tlY (c :: t)).length : Nat) : Int)).toNat = strOfNums [c] := by rw [htl, str_extract]; rfl
        have hex2 : (strOfNums (numL c.toNat)).toList = ((strOfNums (c :: t)).extract (Int.toNat 0) (1 + (((tlY (c :: t)).length : Nat) : Int)).toNat).toList := by rw [hex, hnm]
        have hdr : (strOfNums (c :: t)).extract (1 + (((tlY (c :: t)).length : Nat) : Int)).toNat (((strOfNums (c :: t)).size : Nat) : Int).toNat = strOfNums t := by
          rw [htl, str_extract, hls, Int.toNat_natCast, List.take_length]; rfl
        by_cases h3 : m < c
        · have k0 : numF (c :: t) m = 12 := by unfold numF; rw [hn]; exact if_pos ⟨rfl, h3⟩
          have k1 : eyS ⟨c :: t, 0⟩ m = (0, ⟨[], 12⟩) := by unfold eyS; rw [if_pos rfl, if_neg (by rw [k0]; decide), k0]
          have k2 : failL ⟨c :: t, 0⟩ 12 = [] := if_pos ⟨rfl, by decide⟩
          have k3 : failE ⟨c :: t, 0⟩ 12 = 12 := if_pos ⟨rfl, by decide⟩
          have h3' : m < rU (c :: t) 0 := by rw [hru]; exact h3
          have lm := And.intro k1 (And.intro k2 k3)
          ((repeat' ((conv => whnf) <;> first | exact True.intro | (guard_target =~ Fork _ _ _; first | refine F1 ?_ | refine F2 ?_ | refine F3 (fun h => ?_) fun h => ?_) | (guard_target =~ Ar _ _ _; first | refine A1 ?_ | refine A2 ?_ | refine A3 ?_) | (guard_target =~ AskL _ _; first | refine L1 ?_) | (guard_target =~ Go.Eng.Ask _ _; first | refine K1 ?_) | (guard_target =~ All' _ _; first | (refine Y2 fun y he he' hy => ?_; (try dsimp only at he he' hy)) | (refine Y1 fun y he hy => ?_; (try with_reducible conv at he => (rhs; whnf)); (try dsimp only at he hy))) | refine F4 (fun h => ?_) fun h => ?_ | refine R1 ?_ | refine Q1 ?_ | fail)); all_goals (conv => whnf))
          refine CallP.mk (C := rnumC) c.toNat ?_
          refine AskL.mk (show rU (c :: t) 0 = ((c.toNat : Nat) : Int) by rw [hru, hcn]) (Ask.mk (show c.toNat < 18446744073709551616 by omega) (All'.mk ?_))
          rintro _ ⟨-, -⟩
          ((repeat' ((conv => whnf) <;> first | exact True.intro | (guard_target =~ Fork _ _ _; first | refine F1 ?_ | refine F2 ?_ | refine F3 (fun h => ?_) fun h => ?_) | (guard_target =~ Ar _ _ _; first | refine A1 ?_ | refine A2 ?_ | refine A3 ?_) | (guard_target =~ AskL _ _; first | refine L1 ?_) | (guard_target =~ Go.Eng.Ask _ _; first | refine K1 ?_) | (guard_target =~ All' _ _; first | (refine Y2 fun y he he' hy => ?_; (try dsimp only at he he' hy)) | (refine Y1 fun y he hy => ?_; (try with_reducible conv at he => (rhs; whnf)); (try dsimp only at he hy)) | (refine All'.mk ?_; intro y hy)) | refine F4 (fun h => ?_) fun h => ?_ | refine R1 ?_ | refine Q1 ?_ | fail)); all_goals (conv => whnf))
          refine CallP.mk (C := rfailC) (⟨c :: t, 0⟩, 12) ?_
          exact G1
        · have k0 : numF (c :: t) m = 0 := by unfold numF; rw [hn]; exact if_neg (fun h => h3 h.2)
          have k1 : eyS ⟨c :: t, 0⟩ m = (c, ⟨t, 0⟩) := by unfold eyS; rw [if_pos rfl, if_pos k0, hn]; rfl
          have h3' : ¬ m < rU (c :: t) 0 := by rw [hru]; exact h3
          have lm := And.intro k1 hdr
          ((repeat' ((conv => whnf) <;> first | exact True.intro | (guard_target =~ Fork _ _ _; first | refine F1 ?_ | refine F2 ?_ | refine F3 (fun h => ?_) fun h => ?_) | (guard_target =~ Ar _ _ _; first | refine A1 ?_ | refine A2 ?_ | refine A3 ?_) | (guard_target =~ AskL _ _; first | refine L1 ?_) | (guard_target =~ Go.Eng.Ask _ _; first | refine K1 ?_) | (guard_target =~ All' _ _; first | (refine Y2 fun y he he' hy => ?_; (try dsimp only at he he' hy)) | (refine Y1 fun y he hy => ?_; (try with_reducible conv at he => (rhs; whnf)); (try dsimp only at he hy))) | refine F4 (fun h => ?_) fun h => ?_ | refine R1 ?_ | refine Q1 ?_ | fail)); all_goals (conv => whnf))
          refine CallP.mk (C := rnumC) c.toNat ?_
          refine AskL.mk (show rU (c :: t) 0 = ((c.toNat : Nat) : Int) by rw [hru, hcn]) (Ask.mk (show c.toNat < 18446744073709551616 by omega) (All'.mk ?_))
          rintro _ ⟨-, -⟩
          exact G1
      · by_cases h3 : (t.length : Int) < c - 247
        · have hn : numS (c :: t) = (0, 0, 10) := by rw [numS_cons, if_neg h2, if_pos h3]
          have k0 : numF (c :: t) m = 10 := by unfold numF; rw [hn]; exact if_neg (fun h => absurd h.1 (by decide))
          have k1 : eyS ⟨c :: t, 0⟩ m = (0, ⟨[], 10⟩) := by unfold eyS; rw [if_pos rfl, if_neg (by rw [k0]; decide), k0]
          have k2 : failL ⟨c :: t, 0⟩ 10 = [] := if_pos ⟨rfl, by decide⟩
          have k3 : failE ⟨c :: t, 0⟩ 10 = 10 := if_pos ⟨rfl, by decide⟩
          have lm := And.intro hb0 (And.intro hw1 (And.intro hw2 (And.intro k1 (And.intro k2 k3))))
          ((repeat' ((conv => whnf) <;> first | exact True.intro | (guard_target =~ Fork _ _ _; first | refine F1 ?_ | refine F2 ?_ | refine F3 (fun h => ?_) fun h => ?_) | (guard_target =~ Ar _ _ _; first | refine A1 ?_ | refine A2 ?_ | refine A3 ?_) | (guard_target =~ AskL _ _; first | refine L1 ?_) | (guard_target =~ Go.Eng.Ask _ _; first | refine K1 ?_) | (guard_target =~ All' _ _; first | (refine Y2 fun y he he' hy => ?_; (try dsimp only at he he' hy)) | (refine Y1 fun y he hy => ?_; (try with_reducible conv at he => (rhs; whnf)); (try dsimp only at he hy)) | (refine All'.mk ?_; intro y hy)) | refine F4 (fun h => ?_) fun h => ?_ | refine R1 ?_ | refine Q1 ?_ | fail)); all_goals (conv => whnf))
          refine CallP.mk (C := rfailC) (⟨c :: t, 0⟩, 10) ?_
          exact G1
        · have hml : (tlY (c :: t)).length = (c - 247).toNat := by show (t.take (c - 247).toNat).length = _; rw [List.length_take]; omega
          have hmo : okY (tlY (c :: t)) := okY_take (fun x hx => hl x (List.mem_cons_of_mem _ hx)) _
          have hn : numS (c :: t) = if numL (beV (tlY (c :: t))) = c :: tlY (c :: t) then (((beV (tlY (c :: t)) : Nat) : Int), c - 246, 0) else (0, 0, 11) := by rw [numS_cons, if_neg h2, if_neg h3]; rfl
          have hru0 : rU (c :: t) 0 = 0 := if_neg h2
          have hm0 : (((tlY (c :: t)).length : Nat) : Int) = c - 247 := by omega
          have lm := And.intro hb0 (And.intro hw1 hw2)
          ((repeat' ((conv => whnf) <;> first | exact True.intro | (guard_target =~ Fork _ _ _; first | refine F1 ?_ | refine F2 ?_ | refine F3 (fun h => ?_) fun h => ?_) | (guard_target =~ Ar _ _ _; first | refine A1 ?_ | refine A2 ?_ | refine A3 ?_) | (guard_target =~ AskL _ _; first | refine L1 ?_) | (guard_target =~ Go.Eng.Ask _ _; first | refine K1 ?_) | (guard_target =~ All' _ _; first | (refine Y2 fun y he he' hy => ?_; (try dsimp only at he he' hy)) | (refine Y1 fun y he hy => ?_; (try with_reducible conv at he => (rhs; whnf)); (try dsimp only at he hy))) | refine F4 (fun h => ?_) fun h => ?_ | refine R1 ?_ | refine Q1 ?_ | fail)); all_goals (conv => whnf))
          refine Some'.mk (0 : Nat) ?_
          ((repeat' ((conv => whnf) <;> first | exact True.intro | (guard_target =~ Fork _ _ _; first | refine F1 ?_ | refine F2 ?_ | refine F3 (fun h => ?_) fun h => ?_) | (guard_target =~ Ar _ _ _; first | refine A1 ?_ | refine A2 ?_ | refine A3 ?_) | (guard_target =~ Go.Eng.Ask _ _; first | refine K1 ?_) | (guard_target =~ All' _ _; first | (refine Y2 fun y he he' hy => ?_; (try dsimp only at he he' hy)) | (refine Y1 fun y he hy => ?_; (try with_reducible conv at he => (rhs; whnf)); (try dsimp only at he hy)) | (refine All'.mk ?_; intro y hy)) | refine F4 (fun h => ?_) fun h => ?_ | refine R1 ?_ | refine Q1 ?_ | fail)); all_goals (conv => whnf))
          refine AskL.mk ?_ (Ask.mk (Nat.zero_le _) ?_)
          · (dsimp only [conj]; repeat' apply And.intro) <;> first | rfl | (show _ = (((tlY (c :: t)).length : Nat) : Int); rw [hm0, hb0, hw2]) | exact hru0.symm
          refine AllI.mk ?_
          rintro (i : Nat) hi
          have hi : i ≤ (tlY (c :: t)).length := hi
          by_cases hie : i = (tlY (c :: t)).length
          · subst hie
            have hb : beV (tlY (c :: t)) < 18446744073709551616 := by
              have := beV_lt 8 (tlY (c :: t)) (by omega) hmo
              omega
            have hru : rU (c :: t) (tlY (c :: t)).length = ((beV (tlY (c :: t)) : Nat) : Int) := by
              show (if c ≤ 247 then c else ((beV ((tlY (c :: t)).take (tlY (c :: t)).length) : Nat) : Int)) = _
              rw [if_neg h2, List.take_length]
            have hex : (strOfNums (c :: t)).extract (Int.toNat 0) (1 + (((tlY (c :: t)).length : Nat) : Int)).toNat = strOfNums (c :: tlY (c :: t)) := by
              rw [str_extract, hml, show (1 + (((c - 247).toNat : Nat) : Int)).toNat = (c - 247).toNat + 1 by omega]; rfl
            have hdr : (strOfNums (c :: t)).extract (1 + (((tlY (c :: t)).length : Nat) : Int)).toNat (((strOfNums (c :: t)).size : Nat) : Int).toNat = strOfNums ((c :: t).drop (c - 246).toNat) := by
              rw [str_extract, hls, Int.toNat_natCast, List.take_length, hml, show (1 + (((c - 247).toNat : Nat) : Int)).toNat = (c - 246).toNat by omega]
            have hok2 : okB (c :: tlY (c :: t)) := okB_cons hc hmo
            by_cases hq : numL (beV (tlY (c :: t))) = c :: tlY (c :: t)
            · have hex2 : (strOfNums (numL (beV (tlY (c :: t))))).toList = ((strOfNums (c :: t)).extract (Int.toNat 0) (1 + (((tlY (c :: t)).length : Nat) : Int)).toNat).toList := by rw [hex, hq]
              rw [if_pos hq] at hn
              by_cases h4 : m < ((beV (tlY (c :: t)) : Nat) : Int)
              · have k0 : numF (c :: t) m = 12 := by unfold numF; rw [hn]; exact if_pos ⟨rfl, h4⟩
                have k1 : eyS ⟨c :: t, 0⟩ m = (0, ⟨[], 12⟩) := by unfold eyS; rw [if_pos rfl, if_neg (by rw [k0]; decide), k0]
                have k2 : failL ⟨c :: t, 0⟩ 12 = [] := if_pos ⟨rfl, by decide⟩
                have k3 : failE ⟨c :: t, 0⟩ 12 = 12 := if_pos ⟨rfl, by decide⟩
                have h4' : m < rU (c :: t) (tlY (c :: t)).length := by rw [hru]; exact h4
                clear hq hex hok2
                have lm := And.intro k1 (And.intro k2 k3)
                ((repeat' ((conv => whnf) <;> first | exact True.intro | (guard_target =~ Fork _ _ _; first | refine F1 ?_ | refine F2 ?_ | refine F3 (fun h => ?_) fun h => ?_) | (guard_target =~ Ar _ _ _; first | refine A1 ?_ | refine A2 ?_ | refine A3 ?_) | (guard_target =~ AskL _ _; first | refine L1 ?_) | (guard_target =~ Go.Eng.Ask _ _; first | refine K1 ?_) | (guard_target =~ All' _ _; first | (refine Y2 fun y he he' hy => ?_; (try dsimp only at he he' hy)) | (refine Y1 fun y he hy => ?_; (try with_reducible conv at he => (rhs; whnf)); (try dsimp only at he hy))) | refine F4 (fun h => ?_) fun h => ?_ | refine R1 ?_ | refine Q1 ?_ | fail)); all_goals (conv => whnf))
                refine CallP.mk (C := rnumC) (beV (tlY (c :: t))) ?_
                refine AskL.mk hru (Ask.mk hb (All'.mk ?_))
                rintro _ ⟨-, -⟩
                ((repeat' ((conv => whnf) <;> first | exact True.intro | (guard_target =~ Fork _ _ _; first | refine F1 ?_ | refine F2 ?_ | refine F3 (fun h => ?_) fun h => ?_) | (guard_target =~ Ar _ _ _; first | refine A1 ?_ | refine A2 ?_ | refine A3 ?_) | (guard_target =~ AskL _ _; first | refine L1 ?_) | (guard_target =~ Go.Eng.Ask _ _; first | refine K1 ?_) | (guard_target =~ All' _ _; first | (refine Y2 fun y he he' hy => ?_; (try dsimp only at he he' hy)) | (refine Y1 fun y he hy => ?_; (try with_reducible conv at he => (rhs; whnf)); (try dsimp only at he hy)) | (refine All'.mk ?_; intro y hy)) | refine F4 (fun h => ?_) fun h => ?_ | refine R1 ?_ | refine Q1 ?_ | fail)); all_goals (conv => whnf))
                refine CallP.mk (C := rfailC) (⟨c :: t, 0⟩, 12) ?_
                exact G1
              · have k0 : numF (c :: t) m = 0 := by unfold numF; rw [hn]; exact if_neg (fun h => h4 h.2)
                have k1 : eyS ⟨c :: t, 0⟩ m = (rU (c :: t) (tlY (c :: t)).length, ⟨(c :: t).drop (c - 246).toNat, 0⟩) := by unfold eyS; rw [if_pos rfl, if_pos k0, hn, hru]
                have h4' : ¬ m < rU (c :: t) (tlY (c :: t)).length := by rw [hru]; exact h4
                clear hq hex hok2
                have lm := And.intro k1 hdr
                ((repeat' ((conv => whnf) <;> first | exact True.intro | (guard_target =~ Fork _ _ _; first | refine F1 ?_ | refine F2 ?_ | refine F3 (fun h => ?_) fun h => ?_) | (guard_target =~ Ar _ _ _; first | refine A1 ?_ | refine A2 ?_ | refine A3 ?_) | (guard_target =~ AskL _ _; first | refine L1 ?_) | (guard_target =~ Go.Eng.Ask _ _; first | refine K1 ?_) | (guard_target =~ All' _ _; first | (refine Y2 fun y he he' hy => ?_; (try dsimp only at he he' hy)) | (refine Y1 fun y he hy => ?_; (try with_reducible conv at he => (rhs; whnf)); (try dsimp only at he hy))) | refine F4 (fun h => ?_) fun h => ?_ | refine R1 ?_ | refine Q1 ?_ | fail)); all_goals (conv => whnf))
                refine CallP.mk (C := rnumC) (beV (tlY (c :: t))) ?_
                refine AskL.mk hru (Ask.mk hb (All'.mk ?_))
                rintro _ ⟨-, -⟩
                exact G1
            · have hno : okB (numL (beV (tlY (c :: t)))) := numL_okB _ hb
              have hex2 : ¬ (strOfNums (numL (beV (tlY (c :: t))))).toList = ((strOfNums (c :: t)).extract (Int.toNat 0) (1 + (((tlY (c :: t)).length : Nat) : Int)).toNat).toList := fun h => by
                simp only [ByteArray.toList_eq] at h
                have h := ByteArray.ext (Array.toList_inj.1 h)
                rw [hex] at h
                exact hq ((str_inj hno hok2).1 h)
              rw [if_neg hq] at hn
              have k0 : numF (c :: t) m = 11 := by unfold numF; rw [hn]; exact if_neg (fun h => absurd h.1 (by decide))
              have k1 : eyS ⟨c :: t, 0⟩ m = (0, ⟨[], 11⟩) := by unfold eyS; rw [if_pos rfl, if_neg (by rw [k0]; decide), k0]
              have k2 : failL ⟨c :: t, 0⟩ 11 = [] := if_pos ⟨rfl, by decide⟩
              have k3 : failE ⟨c :: t, 0⟩ 11 = 11 := if_pos ⟨rfl, by decide⟩
              clear hq hex hok2 hno
              have lm := And.intro k1 (And.intro k2 k3)
              ((repeat' ((conv => whnf) <;> first | exact True.intro | (guard_target =~ Fork _ _ _; first | refine F1 ?_ | refine F2 ?_ | refine F3 (fun h => ?_) fun h => ?_) | (guard_target =~ Ar _ _ _; first | refine A1 ?_ | refine A2 ?_ | refine A3 ?_) | (guard_target =~ AskL _ _; first | refine L1 ?_) | (guard_target =~ Go.Eng.Ask _ _; first | refine K1 ?_) | (guard_target =~ All' _ _; first | (refine Y2 fun y he he' hy => ?_; (try dsimp only at he he' hy)) | (refine Y1 fun y he hy => ?_; (try with_reducible conv at he => (rhs; whnf)); (try dsimp only at he hy))) | refine F4 (fun h => ?_) fun h => ?_ | refine R1 ?_ | refine Q1 ?_ | fail)); all_goals (conv => whnf))
              refine CallP.mk (C := rnumC) (beV (tlY (c :: t))) ?_
              refine AskL.mk hru (Ask.mk hb (All'.mk ?_))
              rintro _ ⟨-, -⟩
              ((repeat' ((conv => whnf) <;> first | exact True.intro | (guard_target =~ Fork _ _ _; first | refine F1 ?_ | refine F2 ?_ | refine F3 (fun h => ?_) fun h => ?_) | (guard_target =~ Ar _ _ _; first | refine A1 ?_ | refine A2 ?_ | refine A3 ?_) | (guard_target =~ AskL _ _; first | refine L1 ?_) | (guard_target =~ Go.Eng.Ask _ _; first | refine K1 ?_) | (guard_target =~ All' _ _; first | (refine Y2 fun y he he' hy => ?_; (try dsimp only at he he' hy)) | (refine Y1 fun y he hy => ?_; (try with_reducible conv at he => (rhs; whnf)); (try dsimp only at he hy)) | (refine All'.mk ?_; intro y hy)) | refine F4 (fun h => ?_) fun h => ?_ | refine R1 ?_ | refine Q1 ?_ | fail)); all_goals (conv => whnf))
              refine CallP.mk (C := rfailC) (⟨c :: t, 0⟩, 11) ?_
              exact G1
          · obtain ⟨w, hw⟩ : ∃ w, (tlY (c :: t))[i]? = some w := ⟨_, List.getElem?_eq_getElem (by omega)⟩
            have hwm : 0 ≤ w ∧ w < 256 := hmo w (List.mem_of_getElem? hw)
            have hwt : (c :: t)[i + 1]? = some w := by
              show t[i]? = some w
              have : (t.take (c - 247).toNat)[i]? = some w := hw
              rw [List.getElem?_take] at this
              split at this
              · exact this
              · cases this
            have hbw : byteAt (strOfNums (c :: t)) ((i + 1 : Nat) : Int).toNat = w := by rw [Int.toNat_natCast]; exact byteAt_of hl hwt
            have hww : IntKind.u64.wrap w = w := wrap_u64 (by omega) (by omega)
            have hui : rU (c :: t) i = ((beV ((tlY (c :: t)).take i) : Nat) : Int) := if_neg h2
            have hui1 : rU (c :: t) (i + 1) = rU (c :: t) i * 256 + w := by
              rw [hui]
              show (if c ≤ 247 then c else ((beV ((tlY (c :: t)).take (i + 1)) : Nat) : Int)) = _
              rw [if_neg h2, take_get hw, beV_snoc]; omega
            have hbl : beV ((tlY (c :: t)).take i) < 72057594037927936 := by
              have := beV_lt 7 ((tlY (c :: t)).take i) (by rw [List.length_take]; omega) (okY_take hmo _)
              omega
            have hr0 : 0 ≤ rU (c :: t) i ∧ rU (c :: t) i < 72057594037927936 := by omega
            have hlt1 : i + 1 < (strOfNums (c :: t)).size := by
              rw [hls]; exact (List.getElem?_eq_some_iff.1 hwt).1
            have hpr : (reyL (⟨c :: t, 0⟩, m)).pre (i + 1) := by show i + 1 ≤ (tlY (c :: t)).length; omega
            have hmu : (reyL (⟨c :: t, 0⟩, m)).mu (i + 1) < (reyL (⟨c :: t, 0⟩, m)).mu i := by show (tlY (c :: t)).length - (i + 1) < (tlY (c :: t)).length - i; omega
            clear hui hbl
            have lm := And.intro hbw hww
            ((repeat' ((conv => whnf) <;> first | exact True.intro | (guard_target =~ Fork _ _ _; first | refine F1 ?_ | refine F2 ?_ | refine F3 (fun h => ?_) fun h => ?_) | (guard_target =~ Ar _ _ _; first | refine A1 ?_ | refine A2 ?_ | refine A3 ?_) | (guard_target =~ AskL _ _; first | refine L1 ?_) | (guard_target =~ Go.Eng.Ask _ _; first | refine K1 ?_) | (guard_target =~ All' _ _; first | (refine Y2 fun y he he' hy => ?_; (try dsimp only at he he' hy)) | (refine Y1 fun y he hy => ?_; (try with_reducible conv at he => (rhs; whnf)); (try dsimp only at he hy))) | refine F4 (fun h => ?_) fun h => ?_ | refine R1 ?_ | refine Q1 ?_ | fail)); all_goals (conv => whnf))
            refine Some'.mk (i + 1 : Nat) ?_
            ((repeat' ((conv => whnf) <;> first | exact True.intro | (guard_target =~ Fork _ _ _; first | refine F1 ?_ | refine F2 ?_ | refine F3 (fun h => ?_) fun h => ?_) | (guard_target =~ Ar _ _ _; first | refine A1 ?_ | refine A2 ?_ | refine A3 ?_) | (guard_target =~ Go.Eng.Ask _ _; first | refine K1 ?_) | (guard_target =~ All' _ _; first | (refine Y2 fun y he he' hy => ?_; (try dsimp only at he he' hy)) | (refine Y1 fun y he hy => ?_; (try with_reducible conv at he => (rhs; whnf)); (try dsimp only at he hy)) | (refine All'.mk ?_; intro y hy)) | refine F4 (fun h => ?_) fun h => ?_ | refine R1 ?_ | refine Q1 ?_ | fail)); all_goals (conv => whnf))
            refine AskL.mk ?_ (Ask.mk hpr (Ask.mk hmu trivial))
            (dsimp only [conj]; repeat' apply And.intro) <;> first | rfl | exact hui1.symm | (rw [hui1, hbw, hww]) | (push_cast; omega)
  · have k1 : eyS ⟨l, e⟩ m = (0, ⟨l, e⟩) := if_neg h1
    have lm := k1
    exact G1
end Go.Proofs.YtoaaieiiamdopaaGreatDoor
