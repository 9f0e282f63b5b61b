/- Parts of the proof, one behind the other (VerP, Fzg, VerQ, VerR, VerS, VerT, VerU, VerV, VerW, SetA, SetB, VerX, VerZ, VerY, VerFr, EngY). -/
import Derived.Test.YthmbdjhlfieldaaGreatDoorPk11
import Derived.LaidMore
import Derived.HandedShaped
import Derived.Lib.LaidTab
set_option linter.unusedVariables false
set_option linter.unusedSimpArgs false
set_option linter.unusedSectionVars false
set_option linter.unusedVariables false
set_option linter.unusedSimpArgs false
set_option maxRecDepth 100000
set_option maxHeartbeats 4000000
namespace Go.Proofs.YthmbdjhlfieldaaGreatDoor
open Go.Eng
@[reducible] def icloneC : Ctr := {
  X := Item
  Y := Unit
  args := fun x => [itemV x]
  rw := fun _ => []
  side := fun x => x.2.2.1.length ≤ 274877906944 ∧ x.2.2.2.2.length ≤ 274877906944
  val := fun _ => ()
  ens := fun _ _ => True
  res := fun x _ => .agg [.v (.string x.1), .v (.int .i64 x.2.1.1), .v (.int .i64 x.2.1.2), .sl 1000, .v (.bool x.2.2.2.1), .sl 1001]
  out := fun x _ => [(1000, .row 47 runT x.2.2.1), (1001, .row 5 (.int .u8) x.2.2.2.2)] }
theorem knownCl : Known Tryz.prog (gOf [(62, cloneCRu), (63, cloneBC)]) :=
  known_cons ⟨clone_okRu, Tryz.call62⟩ (known_cons ⟨cloneB_ok, Tryz.call63⟩ (known_nil _))
theorem iclone_ok : icloneC.ok Tryz.prog 21 := by
  refine ok_of_vc (An := fun _ => anOf []) knownCl mo Tryz.func21 (by kernel_rfl) (by kernel_rfl) (fun _ _ => trivial) (fun (x : Item) hs => ?_)
  obtain ⟨k, ⟨m, n⟩, c, g, v⟩ := x
  obtain ⟨h1, h2⟩ := hs
  have h1 : c.length ≤ 274877906944 := h1
  have h2 : v.length ≤ 274877906944 := h2
  have ck : Hc cloneCRu c (Hc cloneBC v True) := .mk (.mk trivial)
  exact G1
end Go.Proofs.YthmbdjhlfieldaaGreatDoor

set_option linter.unusedVariables false
set_option linter.unusedSimpArgs false
set_option linter.unusedSectionVars false
namespace Go.Proofs.YthmbdjhlfieldaaGreatDoor
open Go.Eng
variable [DM]
/-- A row of the result: its name, what is in it. -/
structure Rw where
  id : Nat
  t : Ty
  xs : List t.den
inductive FzS (R : List Rw) : SV → SV → Prop where
  | sl (r : Rw) (h : r ∈ R) : FzS R (.sl r.id) (.ro false r.t r.xs)
  | same (s : SV) : FzS R s s
  | agg (l l' : List SV) (hl : l'.length = l.length) (h : ∀ (j : Nat) (s s' : SV), l[j]? = some s → l'[j]? = some s' → FzS R s s') : FzS R (.agg l) (.agg l')
  | tuple (l l' : List SV) (hl : l'.length = l.length) (h : ∀ (j : Nat) (s s' : SV), l[j]? = some s → l'[j]? = some s' → FzS R s s') : FzS R (.tuple l) (.tuple l')
inductive FzL (R : List Rw) : List SV → List SV → Prop where
  | nil : FzL R [] []
  | cons {s s' : SV} {l l' : List SV} (h : FzS R s s') (k : FzL R l l') : FzL R (s :: l) (s' :: l')
theorem FzL.len {R : List Rw} {l l' : List SV} (h : FzL R l l') : l'.length = l.length := by
  induction h with
  | nil => rfl
  | cons _ _ ih => simp [ih]
theorem FzL.at {R : List Rw} {l l' : List SV} (h : FzL R l l') : ∀ (j : Nat) (s s' : SV), l[j]? = some s → l'[j]? = some s' → FzS R s s' := by
  induction h with
  | nil => intro j s' s h; simp at h
  | cons h _ ih =>
    intro j s' s h1 h2
    cases j with
    | zero =>
      obtain rfl := Option.some.inj h1
      obtain rfl := Option.some.inj h2
      exact h
    | succ j => exact ih j s' s h1 h2
theorem FzS.aggL {R : List Rw} {l l' : List SV} (h : FzL R l l') : FzS R (.agg l) (.agg l') := .agg l l' h.len h.at
theorem FzS.tupL {R : List Rw} {l l' : List SV} (h : FzL R l l') : FzS R (.tuple l) (.tuple l') := .tuple l l' h.len h.at
theorem FzS.sat {R : List Rw} {E E2 : Env} {w : World} {fp : Nat → Nat → Prop} (hle : E.le E2) (hrow : ∀ r, r ∈ R → ∃ te, EntSat E w (fp r.id) r.id (.row te r.t r.xs) ∧ ∀ b, fp r.id b → E2.I b)
    {s s' : SV} (h : FzS R s s') : ∀ {v : Value}, Sat E w s v → Sat E2 w s' v := by
  induction h with
  | sl r hr =>
    intro v hv
    obtain ⟨te, h1, h2⟩ := hrow r hr
    cases hv with
    | sl _ s hs => exact row_ro hle h1 hs h2
  | same s => intro v hv; exact hv.mono hle (fun _ _ _ => rfl)
  | agg l l' hl h ih =>
    intro v hv
    cases hv with
    | agg _ vs u h1 h2 h3 =>
      refine .agg l' vs u (h1.trans hl.symm) (fun j hj => h2 j (by omega)) (fun j sv hj => ?_)
      have hlt := (List.getElem?_eq_some_iff.1 hj).1
      have e := List.getElem?_eq_getElem (l := l) (i := j) (by omega)
      exact ih j _ sv e hj (h3 j _ e)
  | tuple l l' hl h ih =>
    intro v hv
    cases hv with
    | tuple _ vs u h1 h2 h3 =>
      refine .tuple l' vs u (h1.trans hl.symm) (fun j hj => h2 j (by omega)) (fun j sv hj => ?_)
      have hlt := (List.getElem?_eq_some_iff.1 hj).1
      have e := List.getElem?_eq_getElem (l := l) (i := j) (by omega)
      exact ih j _ sv e hj (h3 j _ e)
theorem ctr_freezeG {P : Program} {f : FuncId} {C : Ctr} (R : C.X → List Rw) (res' : C.X → SV) (out' : C.X → En) (hr : ∀ x, FzS (R x) (C.res x (C.val x)) (res' x))
    (hin : ∀ x r, r ∈ R x → ∃ te, find (C.out x (C.val x)) r.id = .row te r.t r.xs) (hout : ∀ x id, (find (out' x) id = find (C.out x (C.val x)) id ∧ ∀ r, r ∈ R x → r.id ≠ id) ∨ find (out' x) id = .gone)
    (h : C.ok P f) : ({ C with res := fun x _ => res' x, out := fun x _ => out' x } : Ctr).ok P f := by
  intro x hs
  obtain ⟨he, H⟩ := h x hs
  refine ⟨he, fun E fp vals w h1 h2 h3 h4 => CallsIn.mono (H E fp vals w h1 h2 h3 h4) ?_⟩
  rintro e w' ⟨v, E', fp', rfl, hv, hents, hadv, hn⟩
  let fr : Nat → Prop := fun b => ∃ r, r ∈ R x ∧ fp' r.id b
  let E2 : Env := { E' with I := fun b => E'.I b ∨ fr b }
  have hle : E'.le E2 := ⟨fun _ _ h => h, fun _ h => .inl h, fun _ h => h⟩
  let fp2 : Nat → Nat → Prop := fun id b => fp' id b ∧ find (out' x) id ≠ .gone
  have key : ∀ id b, fp2 id b → ¬ fr b := fun id b ⟨hb, hg⟩ ⟨r, hr, hrb⟩ => by
    rcases hout x id with ⟨_, hne⟩ | hgone
    · exact hents.apart r.id id b (hne r hr) hrb hb
    · exact hg hgone
  refine ⟨v, E2, fp2, rfl, (hr x).sat (fp := fp') hle (fun r hrr => ?_) hv, ⟨fun id => ?_, fun id b hb => hents.lt id b hb.1, fun id b hb hI => ?_, fun id b hb => hents.B id b hb.1, fun i j b hij hi hj => hents.apart i j b hij hi.1 hj.1, fun b hb => ?_, hents.nil.mono hle, hents.gl.mono (fun b hb => .inl hb) (fun _ _ => rfl)⟩,
    ⟨hadv.keep, hadv.le.trans hle, fun b hb => ?_, hadv.Beq, fun id b hb => hadv.onew id b hb.1⟩, hn⟩
  · obtain ⟨te, hf⟩ := hin x r hrr
    have := hents.sat r.id
    rw [hf] at this
    exact ⟨te, this, fun b hb => .inr ⟨r, hrr, hb⟩⟩
  · show EntSat E2 w' (fp2 id) id (find (out' x) id)
    rcases hout x id with ⟨heq, _⟩ | hgone
    · by_cases hg : find (out' x) id = .gone
      · rw [hg]; exact fun b hb => hb.2 hg
      · have hfp : fp2 id = fp' id := by
          funext b
          exact propext ⟨And.left, fun hb => ⟨hb, hg⟩⟩
        rw [hfp, heq]
        exact (hents.sat id).mono hle (fun _ _ _ => rfl) (Nat.le_refl _) (fun _ _ => rfl)
    · rw [hgone]; exact fun b hb => hb.2 hgone
  · rcases hI with hI | hI
    · exact hents.I id b hb.1 hI
    · exact key id b hb hI
  · rcases hb with (hb | ⟨r, hr, hb⟩) | hb
    · exact hents.Ilt b (.inl hb)
    · exact hents.lt _ b hb
    · exact hents.Ilt b (.inr hb)
  · rcases hb with hb | ⟨r, hr, hb⟩
    · exact hadv.Inew b hb
    · exact .inr (hadv.onew _ b hb)
end Go.Proofs.YthmbdjhlfieldaaGreatDoor

set_option linter.unusedVariables false
set_option linter.unusedSimpArgs false
set_option maxRecDepth 100000
set_option maxHeartbeats 4000000
namespace Go.Proofs.YthmbdjhlfieldaaGreatDoor
open Go.Eng
noncomputable def dparseF : Ctr := { dparseC with res := fun s _ => .tuple [.ro false runT (parsedL s), .v (.bool (parsedB s))], out := fun _ _ => [] }
attribute [reducible] dparseF
theorem dparseF_ok : dparseF.ok Tryz.prog 38 :=
  ctr_freezeG (C := dparseC) (fun s => [⟨1000, runT, parsedL s⟩]) (fun s => .tuple [.ro false runT (parsedL s), .v (.bool (parsedB s))]) (fun _ => [])
    (fun s => FzS.tupL (.cons (.sl ⟨1000, runT, parsedL s⟩ (List.mem_singleton.2 rfl)) (.cons (.same _) .nil)))
    (fun s r hr => by rcases List.mem_singleton.1 hr with rfl; exact ⟨_, rfl⟩) (fun s id => .inr rfl) dparse_ok
end Go.Proofs.YthmbdjhlfieldaaGreatDoor

set_option linter.unusedVariables false
set_option linter.unusedSimpArgs false
set_option maxRecDepth 100000
set_option maxHeartbeats 4000000
namespace Go.Proofs.YthmbdjhlfieldaaGreatDoor
open Go.Eng
@[reducible] def cutX : Ctr := {
  X := (ByteArray × ByteArray) × (ByteArray × ByteArray × Bool)
  Y := Unit
  args := fun x => [.v (.string x.1.1), .v (.string x.1.2)]
  rw := fun _ => []
  side := fun x => x.1.1.size < 4294967281 ∧ cutS x.1.1 x.1.2 = x.2
  val := fun _ => ()
  ens := fun _ _ => True
  res := fun x _ => .tuple [.v (.string x.2.1), .v (.string x.2.2.1), .v (.bool x.2.2.2)]
  out := fun _ _ => [] }
theorem cutX_ok : cutX.ok Tryz.prog 37 := ctr_re (C := cutC) (C' := cutX) (fun x => x.1) (fun x h => ⟨h.1, trivial, rfl, rfl, by show SV.tuple [.v (.string x.2.1), .v (.string x.2.2.1), .v (.bool x.2.2.2)] = SV.tuple [.v (.string (cutS x.1.1 x.1.2).1), .v (.string (cutS x.1.1 x.1.2).2.1), .v (.bool (cutS x.1.1 x.1.2).2.2)]; rw [h.2], rfl⟩) cut_ok
noncomputable def dparseY : Ctr := {
  X := ByteArray × List Run × Bool
  Y := Unit
  args := fun x => [.v (.string x.1)]
  rw := fun _ => []
  side := fun x => x.1.size ≤ 100000 ∧ parsedL x.1 = x.2.1 ∧ parsedB x.1 = x.2.2
  val := fun _ => ()
  ens := fun _ _ => True
  res := fun x _ => .tuple [.ro false runT x.2.1, .v (.bool x.2.2)]
  out := fun _ _ => [] }
attribute [reducible] dparseY
theorem dparseY_re {f : FuncId} (h : dparseF.ok Tryz.prog f) : dparseY.ok Tryz.prog f := ctr_re (C := dparseF) (C' := dparseY) (fun x => x.1) (fun x h => ⟨h.1, trivial, rfl, rfl, by show SV.tuple [.ro false runT x.2.1, .v (.bool x.2.2)] = SV.tuple [.ro false runT (parsedL x.1), .v (.bool (parsedB x.1))]; rw [h.2.1, h.2.2], rfl⟩) h
@[reducible] def unhexX : Ctr := {
  X := ByteArray × List Int
  Y := Unit
  args := fun x => [.v (.string x.1)]
  rw := fun _ => []
  side := fun x => x.1.size ≤ 100000000000 ∧ unhexL (bytesL x.1) = x.2
  val := fun _ => ()
  ens := fun _ _ => True
  res := fun x _ => .ro false (.int .u8) x.2
  out := fun _ _ => [] }
theorem unhexX_ok : unhexX.ok Tryz.prog 39 := ctr_re (C := unhexedC) (C' := unhexX) (fun x => x.1) (fun x h => ⟨h.1, trivial, rfl, rfl, by show SV.ro false (.int .u8) x.2 = SV.ro false (.int .u8) (unhexL (bytesL x.1)); rw [h.2], rfl⟩) unhexed_ok
@[reducible] def itextX : Ctr := {
  X := Item × ByteArray
  Y := Unit
  args := fun x => [itemV x.1]
  rw := fun _ => []
  side := fun x => itemZ x.1 ∧ strOfNums (textI x.1) = x.2
  val := fun _ => ()
  ens := fun _ _ => True
  res := fun x _ => .v (.string x.2)
  out := fun x _ => [] }
theorem itextX_re {f : FuncId} (h : itextC.ok Tryz.prog f) : itextX.ok Tryz.prog f := ctr_re (C := itextC) (C' := itextX) (fun x => x.1) (fun x h => ⟨h.1, trivial, rfl, rfl, by show SV.v (.string x.2) = SV.v (.string (strOfNums (textI x.1))); rw [h.2], rfl⟩) h
/-- What Parse hands back, by name. -/
noncomputable def iparseX : Ctr := {
  X := ByteArray × Item × Bool
  Y := Unit
  args := fun x => [.v (.string x.1)]
  rw := fun _ => []
  side := fun x => x.1.size ≤ 100000 ∧ vI x.1 = x.2.1 ∧ vB x.1 = x.2.2
  val := fun _ => ()
  ens := fun _ _ => True
  res := fun x _ => .tuple [itemA x.2.1, .v (.bool x.2.2)]
  out := fun _ _ => [] }
attribute [reducible] iparseX
theorem knownIpx : Known Tryz.prog (gOf [(37, cutX), (38, dparseY), (39, unhexX), (11, itextX)]) :=
  known_cons ⟨cutX_ok, Tryz.call37⟩ (known_cons ⟨dparseY_re dparseF_ok, Tryz.call38⟩ (known_cons ⟨unhexX_ok, Tryz.call39⟩ (known_cons ⟨itextX_re itext_ok, Tryz.call11⟩ (known_nil _))))
theorem parsedL_le {s : ByteArray} : (parsedL s).length ≤ s.size + 1 := by
  have hw := words_le s
  by_cases hp : parsedOk s
  · by_cases h45 : s = ⟨#[45]⟩
    · have : parsedL s = [] := if_pos h45
      rw [this]; simp
    · rw [parsedL_yes h45 hp]; unfold parse0; rw [List.length_map]; omega
  · rw [parsedL_no hp]; simp
theorem unhexL_le : ∀ l : List Int, (unhexL l).length ≤ l.length
  | [] => Nat.le_refl _
  | [_] => by simp [unhexL]
  | _ :: _ :: l => by
    have := unhexL_le l
    simp only [unhexL, List.length_cons]; omega
open Classical in
/-- What is read, by cases. -/
theorem vIB {s : ByteArray} {T : ByteArray} (hT : strOfNums (textI (vItem s)) = T) : vI s = (bif !decide (s = ⟨#[]⟩) && decide (T = s) then vItem s else zeroI) ∧ vB s = (!decide (s = ⟨#[]⟩) && decide (T = s)) := by
  unfold vI vB vOk
  rw [hT]
  by_cases e0 : s = ⟨#[]⟩ <;> by_cases e1 : T = s <;> simp [e0, e1]
theorem iparse_ok : iparseX.ok Tryz.prog 9 := by
  refine ok_of_vc (An := fun _ => anOf []) knownIpx mo Tryz.func9 (by kernel_rfl) (by kernel_rfl) (fun _ _ => trivial) (fun (x : ByteArray × Item × Bool) hs => ?_)
  obtain ⟨s, it, b⟩ := x
  obtain ⟨hs, hI, hB⟩ : s.size ≤ 100000 ∧ vI s = it ∧ vB s = b := hs
  obtain ⟨head, rest, b1, h1⟩ : ∃ u v w, cutS s (strOfNums [32, 91]) = (u, v, w) := ⟨_, _, _, rfl⟩
  obtain ⟨past, vl, b2, h2⟩ : ∃ u v w, cutS rest (strOfNums [93, 32]) = (u, v, w) := ⟨_, _, _, rfl⟩
  obtain ⟨key, dt, b3, h3⟩ : ∃ u v w, cutS head (strOfNums [32]) = (u, v, w) := ⟨_, _, _, rfl⟩
  have c1 := cut_le s (strOfNums [32, 91])
  have c2 := cut_le rest (strOfNums [93, 32])
  have c3 := cut_le head (strOfNums [32])
  rw [h1] at c1; rw [h2] at c2; rw [h3] at c3
  dsimp only at c1 c2 c3
  obtain ⟨P, p, hP, hp⟩ : ∃ P p, parsedL dt = P ∧ parsedB dt = p := ⟨_, _, rfl, rfl⟩
  obtain ⟨Q, q, hQ, hq⟩ : ∃ P p, parsedL past = P ∧ parsedB past = p := ⟨_, _, rfl, rfl⟩
  obtain ⟨K, hK⟩ : ∃ K, unhexL (bytesL key) = K := ⟨_, rfl⟩
  obtain ⟨V, hV⟩ : ∃ K, unhexL (bytesL vl) = K := ⟨_, rfl⟩
  obtain ⟨g, hg⟩ : ∃ g, decide (vl = goneS) = g := ⟨_, rfl⟩
  obtain ⟨d, hd⟩ : ∃ d, decide (vl = strOfNums [46]) = d := ⟨_, rfl⟩
  have hit : vItem s = (strOfNums K, dotO P, Q, g, bif g || d then [] else V) := by
    unfold vItem vPast vVal vKey vDot vHead vRest
    rw [h1]
    dsimp only
    rw [h2, h3]
    dsimp only
    rw [hP, hQ, hK, hV, ← hg, ← hd]
    by_cases e1 : vl = goneS <;> by_cases e2 : vl = strOfNums [46] <;> simp [e1, e2]
  obtain ⟨T, hT⟩ : ∃ T, strOfNums (textI (vItem s)) = T := ⟨_, rfl⟩
  obtain ⟨k1, k2⟩ := vIB hT
  rw [hit] at k1 hT
  rw [hI] at k1
  rw [hB] at k2
  obtain ⟨e, he0⟩ : ∃ e, decide (s = ⟨#[]⟩) = e := ⟨_, rfl⟩
  obtain ⟨t, ht⟩ : ∃ e, decide (T = s) = e := ⟨_, rfl⟩
  rw [he0, ht] at k1 k2
  have f1 : (vl.toList == (⟨#[103, 111, 110, 101]⟩ : ByteArray).toList) = g := (str_beq vl goneS).trans hg
  have f2 : (vl.toList == (⟨#[46]⟩ : ByteArray).toList) = d := (str_beq vl (strOfNums [46])).trans hd
  have f3 := (str_beq s ⟨#[]⟩).trans he0
  have f4 := (str_beq T s).trans ht
  have hQl : Q.length ≤ 100001 := by have := parsedL_le (s := past); rw [hQ] at this; omega
  have hKl : K.length ≤ 100000 := by have := unhexL_le (bytesL key); rw [hK, bytesL_length] at this; omega
  have hVl : V.length ≤ 100000 := by have := unhexL_le (bytesL vl); rw [hV, bytesL_length] at this; omega
  have hVy : okY V := by rw [← hV]; exact unhexL_ok _
  have s1 : cutX.side ((s, strOfNums [32, 91]), (head, rest, b1)) := ⟨by show s.size < _; omega, h1⟩
  have s2 : cutX.side ((rest, strOfNums [93, 32]), (past, vl, b2)) := ⟨by show rest.size < _; omega, h2⟩
  have s3 : cutX.side ((head, strOfNums [32]), (key, dt, b3)) := ⟨by show head.size < _; omega, h3⟩
  have s4 : dparseY.side (dt, P, p) := ⟨by show dt.size ≤ _; omega, hP, hp⟩
  have s5 : dparseY.side (past, Q, q) := ⟨by show past.size ≤ _; omega, hQ, hq⟩
  have s6 : unhexX.side (key, K) := ⟨by show key.size ≤ _; omega, hK⟩
  have s7 : unhexX.side (vl, V) := ⟨by show vl.size ≤ _; omega, hV⟩
  have s8 : itextX.side ((strOfNums K, dotO P, Q, g, bif g || d then [] else V), T) := by
    refine ⟨⟨⟨by show (strOfNums K).size ≤ _; rw [str_size]; omega, by show Q.length ≤ _; omega, ?_⟩, ?_⟩, hT⟩
    · show (bif g || d then [] else V).length ≤ _
      cases g <;> cases d <;> simp only [cond_true, cond_false, Bool.or_true, Bool.or_false, List.length_nil] <;> omega
    · show okY (bif g || d then [] else V)
      cases g <;> cases d <;> first | exact hVy | exact fun c hc => nomatch hc
  have ck : Hc cutX ((s, strOfNums [32, 91]), (head, rest, b1)) (Hc cutX ((rest, strOfNums [93, 32]), (past, vl, b2)) (Hc cutX ((head, strOfNums [32]), (key, dt, b3)) (Hc dparseY (dt, P, p) (Hc unhexX (key, K) (Hc dparseY (past, Q, q) (Hc unhexX (vl, V) (Hc itextX ((strOfNums K, dotO P, Q, g, bif g || d then [] else V), T) True))))))) := ⟨⟨⟨⟨⟨⟨⟨⟨trivial⟩⟩⟩⟩⟩⟩⟩⟩
  clear hit hT hI hB hg hd he0 ht h1 h2 h3 hP hp hQ hq hK hV hVy c1 c2 c3
  subst k1 k2
  rcases P with _ | ⟨r, P⟩
  · have hl : ([] : List Run).length = 0 := rfl
    cases g <;> cases d <;> cases e <;> cases t
    all_goals
      have lm := And.intro f1 (And.intro f2 (And.intro f3 f4))
      (refine Z ?_; repeat' (first | exact .intro | ((first | refine B1 (fun h => ?_) fun h => ?_ | refine B2 fun y he he' hy => ?_ | refine B3 fun y he hy => ?_ | refine B4 fun y hy => ?_ | refine B5 fun ck => ?_ | fail) <;> refine Z ?_)))
  · have hl : (r :: P).length = P.length + 1 := rfl
    cases g <;> cases d <;> cases e <;> cases t
    all_goals
      have lm := And.intro f1 (And.intro f2 (And.intro f3 f4))
      (refine Zm ?_; repeat' (first | exact .intro | ((first | refine B1 (fun h => ?_) fun h => ?_ | refine B2 fun y he he' hy => ?_ | refine B3 fun y he hy => ?_ | refine B4 fun y hy => ?_ | refine B5 fun ck => ?_ | fail) <;> refine Zm ?_)))
      refine All'.mk ?_
      rintro (y : Run) hy
      obtain rfl : r = y := Option.some.inj hy
      clear hy
      (refine Zm ?_; repeat' (first | exact .intro | ((first | refine B1 (fun h => ?_) fun h => ?_ | refine B2 fun y he he' hy => ?_ | refine B3 fun y he hy => ?_ | refine B4 fun y hy => ?_ | refine B5 fun ck => ?_ | fail) <;> refine Zm ?_)))
      refine All'.mk ?_
      rintro (y : Run) hy
      obtain rfl : r = y := Option.some.inj hy
      clear hy
      (refine Z ?_; repeat' (first | exact .intro | ((first | refine B1 (fun h => ?_) fun h => ?_ | refine B2 fun y he he' hy => ?_ | refine B3 fun y he hy => ?_ | refine B4 fun y hy => ?_ | refine B5 fun ck => ?_ | fail) <;> refine Z ?_)))
end Go.Proofs.YthmbdjhlfieldaaGreatDoor

set_option linter.unusedVariables false
set_option linter.unusedSimpArgs false
set_option maxRecDepth 100000
set_option maxHeartbeats 4000000
namespace Go.Proofs.YthmbdjhlfieldaaGreatDoor
open Go.Eng
/-- What is behind the words. -/
structure RW (l : List Int) (a b : List Int) (p : List Int) (m : List (List Int)) (v : List Int) : Prop where
  w : splitL 32 l = a :: b :: (p :: m ++ [v])
  key : rKey l = a
  dot : rDot l = b
  val : rVal l = v
  past : rPast l = spc (p :: m)
theorem RW.le {l a b p : List Int} {m : List (List Int)} {v : List Int} (h : RW l a b p m v) : a.length + b.length + (spc (p :: m)).length + v.length ≤ l.length := by
  have e := spc_split l
  rw [h.w, spc_two a b (p :: m) v (by simp)] at e
  have := congrArg List.length e
  simp only [List.length_append, List.length_cons, List.length_nil] at this
  omega
theorem RW.okB {l a b p : List Int} {m : List (List Int)} {v : List Int} (h : RW l a b p m v) (hl : okB l) : okB a ∧ okB b ∧ okB (spc (p :: m)) ∧ okB v := by
  have hm : ∀ t, t ∈ splitL 32 l → Proofs.YthmbdjhlfieldaaGreatDoor.okB t := fun t ht c hc => hl c ((splitL_mem 32 l t ht).2 c hc).1
  rw [h.w] at hm
  exact ⟨hm a (by simp), hm b (by simp), okB_spc _ (fun w hw => hm w (by rcases List.mem_cons.1 hw with rfl | hw <;> simp [*])), hm v (by simp)⟩
end Go.Proofs.YthmbdjhlfieldaaGreatDoor

set_option linter.unusedVariables false
set_option linter.unusedSimpArgs false
set_option maxRecDepth 100000
set_option maxHeartbeats 40000000
namespace Go.Proofs.YthmbdjhlfieldaaGreatDoor
open Go.Eng
end Go.Proofs.YthmbdjhlfieldaaGreatDoor

set_option linter.unusedVariables false
set_option linter.unusedSimpArgs false
set_option maxRecDepth 100000
set_option maxHeartbeats 4000000
namespace Go.Proofs.YthmbdjhlfieldaaGreatDoor
open Go.Eng
@[reducible] def l16 (f : Nat → Int) : List Int := [f 0, f 1, f 2, f 3, f 4, f 5, f 6, f 7, f 8, f 9, f 10, f 11, f 12, f 13, f 14, f 15]
theorem l16_okB {f : Nat → Int} (h : ∀ j, 0 ≤ f j ∧ f j < 256) : okB (l16 f) := fun c hc => by
  simp only [l16, List.mem_cons, List.not_mem_nil, or_false] at hc
  rcases hc with rfl | rfl | rfl | rfl | rfl | rfl | rfl | rfl | rfl | rfl | rfl | rfl | rfl | rfl | rfl | rfl <;> exact h _
@[reducible] def ihexC : Ctr := {
  X := Nat → Int
  Y := Unit
  args := fun f => [.agg (mk16 f)]
  rw := fun _ => []
  side := fun f => ∀ j, 0 ≤ f j ∧ f j < 256
  val := fun _ => ()
  ens := fun _ _ => True
  res := fun f _ => .v (.string (strOfNums (hexL (l16 f))))
  out := fun _ _ => [] }
theorem knownIhx : Known Tryz.prog (gOf [(43, hexesV)]) := known_cons ⟨hexes_ok, Tryz.call43⟩ (known_nil _)
theorem ihex_ok : ihexC.ok Tryz.prog 26 := by
  refine ok_of_vc (An := fun _ => anOf []) knownIhx mo Tryz.func26 (by kernel_rfl) (by kernel_rfl) (fun _ _ => trivial) (fun (f : Nat → Int) hs => ?_)
  have ks : hexesV.side (l16 f) := ⟨l16_okB hs, by show (16 : Nat) ≤ _; omega⟩
  have ck : Hc hexesV (l16 f) True := ⟨trivial⟩
  exact G1
theorem great_two {a b : Item} (h : ¬ greatF 0 [a, b] > 1000) : (a.1.size ≤ 1000 ∧ a.2.2.1.length ≤ 200 ∧ a.2.2.2.2.length ≤ 1000) ∧ (b.1.size ≤ 1000 ∧ b.2.2.1.length ≤ 200 ∧ b.2.2.2.2.length ≤ 1000) := by
  have e : greatF 0 [a, b] = IntKind.i64.wrap (IntKind.i64.wrap (0 + greatOne a) + greatOne b) := rfl
  have ha : 20 ≤ greatOne a ∧ greatOne a ≤ 15020 := by unfold greatOne; omega
  have hb : 20 ≤ greatOne b ∧ greatOne b ≤ 15020 := by unfold greatOne; omega
  rw [e, wrap_i64 (n := 0 + greatOne a) (by omega) (by omega), wrap_i64 (by omega) (by omega)] at h
  unfold greatOne at h ha hb
  omega
@[reducible] def greatX : Ctr := { greatC with Y := Unit, X := List Item × Int, args := fun x => [.ro false itemT x.1], rw := fun _ => [], side := fun x => (x.1.length ≤ 9223372036854775807 ∧ ∀ i, i ∈ x.1 → itemL i) ∧ greatF 0 x.1 = x.2, val := fun _ => (), ens := fun _ _ => True, res := fun x _ => .v (.int .i64 x.2), out := fun _ _ => [] }
theorem greatX_ok : greatX.ok Tryz.prog 8 := ctr_re (C := greatC) (C' := greatX) (fun x => x.1) (fun x h => ⟨h.1, trivial, rfl, rfl, by show SV.v (.int .i64 x.2) = SV.v (.int .i64 (greatF 0 x.1)); rw [h.2], rfl⟩) great_ok
end Go.Proofs.YthmbdjhlfieldaaGreatDoor

set_option linter.unusedVariables false
set_option linter.unusedSimpArgs false
set_option maxRecDepth 100000
set_option maxHeartbeats 4000000
namespace Go.Proofs.YthmbdjhlfieldaaGreatDoor
open Go.Eng
@[reducible] def fX : Item := (⟨#[107]⟩, (0, 3), [(1, 2, 2)], false, [118, 49])
@[reducible] def fY : Item := (⟨#[107]⟩, (1, 2), [], true, [])
@[reducible] def fT : ByteArray := ⟨#[54, 98, 32, 48, 58, 51, 32, 91, 49, 58, 50, 93, 32, 55, 54, 51, 49]⟩
theorem fX_okB : okB fX.2.2.2.2 := fun c hc => by simp at hc; omega
theorem fY_okB : okB fY.2.2.2.2 := fun c hc => nomatch hc
theorem fX_ok : itemB fX = true := by decide
theorem fXY : aboveI fX fY = true := by decide +kernel
theorem fYX : aboveI fY fX = false := by decide +kernel
theorem fX_text : strOfNums (itemTx fX) = fT := by decide +kernel
theorem fX_text2 : strOfNums (textI fX) = fT := by unfold textI; rw [fX_ok, if_pos rfl]; exact fX_text
theorem fX_cmp : cmpIt fX fY = -1 := by decide +kernel
theorem fX_mark : imkF fX 0 ≠ imkF fY 0 := by decide +kernel
open Classical in
theorem fT_read : vI fT = fX ∧ vB fT = true := by
  obtain ⟨h1, h2⟩ := vOk_iff (s := fT) fX_ok fX_okB fX_text
  unfold vI vB
  exact ⟨(if_pos h1).trans h2, decide_eq_true h1⟩
@[reducible] def ibytesX : Ctr := {
  X := Item × List Int
  Y := Unit
  args := fun x => [itemV x.1]
  rw := fun _ => []
  side := fun x => itemL x.1 ∧ itemBs x.1 = x.2
  val := fun _ => ()
  ens := fun _ _ => True
  res := fun _ _ => .sl 1000
  out := fun x _ => [(1000, .row 5 (.int .u8) x.2)] }
theorem ibytesX_ok : ibytesX.ok Tryz.prog 16 := ctr_re (C := ibytesV) (C' := ibytesX) (fun x => x.1) (fun x h => ⟨h.1, trivial, rfl, rfl, rfl, by show [(1000, Ent.row 5 (.int .u8) x.2)] = [(1000, Ent.row 5 (.int .u8) (itemBs x.1))]; rw [h.2]⟩) ibytesV_ok
@[reducible] def ver1C : Ctr := {
  X := Unit
  Y := Unit
  args := fun _ => []
  rw := fun _ => []
  side := fun _ => True
  val := fun _ => ()
  ens := fun _ _ => True
  res := fun _ _ => .v (.bool true)
  out := fun _ _ => [] }
theorem knownV0x : Known Tryz.prog (gOf [(9, iparseX), (16, ibytesX), (15, ireadC), (14, irightU), (17, iaboveC), (11, itextX), (13, isameC), (24, imarkV), (18, icmpC), (26, ihexC)]) :=
  known_cons ⟨iparse_ok, Tryz.call9⟩ (known_cons ⟨ibytesX_ok, Tryz.call16⟩ (known_cons ⟨iread_ok, Tryz.call15⟩ (known_cons ⟨iright_re iright_ok, Tryz.call14⟩ (known_cons ⟨iabove_ok, Tryz.call17⟩
    (known_cons ⟨itextX_re itext_ok, Tryz.call11⟩ (known_cons ⟨isame_ok, Tryz.call13⟩ (known_cons ⟨imarkV_ok, Tryz.call24⟩ (known_cons ⟨icmp_ok, Tryz.call18⟩ (known_cons ⟨ihex_ok, Tryz.call26⟩ (known_nil _))))))))))
theorem ver1_ok : ver1C.ok Tryz.prog 7 := by
  refine ok_of_vc (An := fun _ => anOf []) knownV0x mo Tryz.func7 (by kernel_rfl) (by kernel_rfl) (fun _ _ => trivial) (fun (_ : Unit) hs => ?_)
  clear hs
  have zX : itemZ fX := ⟨⟨by decide, by decide, by decide⟩, fX_okB⟩
  have zY : itemZ fY := ⟨⟨by decide, by decide, by decide⟩, fY_okB⟩
  have hbs : itemBs fX = itemBy fX := by unfold itemBs; rw [fX_ok]; rfl
  obtain ⟨Z1, hZ⟩ : ∃ z, z = fX := ⟨_, rfl⟩
  obtain ⟨B, hB⟩ : ∃ B, itemBs fX = B := ⟨_, rfl⟩
  have zZ : itemZ Z1 := by rw [hZ]; exact zX
  have s1 : iparseX.side (fT, Z1, true) := ⟨(by decide : fT.size ≤ 100000), by rw [hZ]; exact fT_read.1, fT_read.2⟩
  have hr := read_bytes fX_ok
  rw [← hbs, hB, ← hZ] at hr
  have hle : (itemBy fX).length ≤ 28000 := itemBy_le fX_ok
  have s2 : ireadC.side ⟨B, Z1, 0⟩ := ⟨⟨by rw [← hB, hbs]; exact okB_by fX_ok fX_okB, by show B.length ≤ _; rw [← hB, hbs]; omega⟩, hr⟩
  have s11 : ibytesX.side (fX, B) := ⟨zX.1, hB⟩
  have s3 : iaboveC.side (fX, fY) := ⟨zX, zY⟩
  have s4 : iaboveC.side (fY, fX) := ⟨zY, zX⟩
  have s5 : itextX.side (fX, fT) := ⟨zX, fX_text2⟩
  have s6 : isameC.side (Z1, fX) := ⟨zZ, zX⟩
  have s7 : imarkV.side fX := zX
  have s8 : imarkV.side fY := zY
  have s9 : icmpC.side (fX, fY) := ⟨zX.1, zY.1⟩
  have s10 : ihexC.side (fun _ => 0) := fun _ => ⟨Int.le_refl _, (by decide : (0 : Int) < 256)⟩
  have d1 : decide (Z1 = fX) = true := decide_eq_true hZ
  have d2 := fX_ok
  have d3 := fXY
  have d4 := fYX
  have d5 : (fT.toList == fT.toList) = true := beq_self_eq_true _
  have d6 : (imkF fX 0 == imkF fY 0) = false := beq_eq_false_iff_ne.2 fX_mark
  have d7 := fX_cmp
  have d8 : (strOfNums (hexL (l16 fun _ => 0))).size = 32 := by rw [str_size]; rfl
  have ck : Hc iparseX (fT, Z1, true) (Hc ibytesX (fX, B) (Hc ireadC ⟨B, Z1, 0⟩ (Hc irightU fX (Hc iaboveC (fX, fY) (Hc iaboveC (fY, fX) (Hc itextX (fX, fT) (Hc isameC (Z1, fX) (Hc isameC (Z1, fX) (Hc imarkV fX (Hc imarkV fY (Hc icmpC (fX, fY) (Hc ihexC (fun _ => 0) True)))))))))))) := ⟨⟨⟨⟨⟨⟨⟨⟨⟨⟨⟨⟨⟨trivial⟩⟩⟩⟩⟩⟩⟩⟩⟩⟩⟩⟩⟩
  clear hZ hr hle hbs hB
  have lm := And.intro d1 (And.intro d2 (And.intro d3 (And.intro d4 (And.intro d5 (And.intro d6 (And.intro d7 (And.intro d8 Bool.false_and)))))))
  exact G1
end Go.Proofs.YthmbdjhlfieldaaGreatDoor

set_option linter.unusedVariables false
set_option linter.unusedSimpArgs false
set_option maxRecDepth 100000
set_option maxHeartbeats 4000000
namespace Go.Proofs.YthmbdjhlfieldaaGreatDoor
open Go.Eng
end Go.Proofs.YthmbdjhlfieldaaGreatDoor

set_option linter.unusedVariables false
set_option linter.unusedSimpArgs false
set_option maxRecDepth 100000
namespace Go.Proofs.YthmbdjhlfieldaaGreatDoor
open Go.Eng
end Go.Proofs.YthmbdjhlfieldaaGreatDoor

set_option linter.unusedVariables false
set_option linter.unusedSimpArgs false
set_option maxRecDepth 100000
namespace Go.Proofs.YthmbdjhlfieldaaGreatDoor
open Go.Eng
theorem join_rt {a b : List Run} (ha : Rt a) (hb : Rt b) : joinF a b = joinL a b ∧ Rt (joinF a b) ∧ ∀ d, inC (joinF a b) d ↔ inC a d ∨ inC b d := by
  have e : joinF a b = joinL a b := by unfold joinF; rw [right_iff.2 ha, right_iff.2 hb]; rfl
  rw [e]
  exact ⟨rfl, (join_ok b a ha hb.all).1, (join_ok b a ha hb.all).2⟩
theorem has_rt {c : List Run} (hc : Rt c) (d : Dot) : hasB c d = (goodB d && inB c d) := by
  unfold hasB; rw [right_iff.2 hc, Bool.true_and]
theorem has_iff {c : List Run} (hc : Rt c) (d : Dot) : hasB c d = true ↔ goodB d = true ∧ inC c d := by
  rw [has_rt hc, Bool.and_eq_true, inB_iff]
theorem topF_ge (node : Int) : ∀ (c : List Run) (n : Int), Rt c → (∀ r, r ∈ c → r.1 = node → n ≤ r.2.2) → n ≤ topF node n c ∧ ∀ r, r ∈ c → r.1 = node → r.2.2 ≤ topF node n c
  | [], n, _, _ => ⟨Int.le_refl _, fun r h => nomatch h⟩
  | x :: l, n, hc, hn => by
    have hx := hc.hd
    have h1 := topF_ge node l (if x.1 = node then x.2.2 else n) hc.tail (fun r hr e => by
      have hr2 := hc.tail.all r hr
      have hg := hc.gaps r hr
      unfold gapP at hg; unfold runP at hr2
      split
      · omega
      · exact hn r (List.mem_cons_of_mem _ hr) e)
    have e : topF node n (x :: l) = topF node (if x.1 = node then x.2.2 else n) l := rfl
    rw [e]
    refine ⟨?_, fun r hr h2 => ?_⟩
    · have := hn x (List.mem_cons_self ..)
      refine Int.le_trans ?_ h1.1
      split
      · rename_i h3; exact this h3
      · exact Int.le_refl _
    · rcases List.mem_cons.1 hr with rfl | hr
      · have := h1.1
        rw [if_pos h2] at this ⊢; exact this
      · exact h1.2 r hr h2
theorem set_top {a : List Run} (ha : Rt a) {d : Dot} (h : hasB a d = true) : d.2 ≤ topN a d.1 := by
  obtain ⟨-, r, hr, hi⟩ := (has_iff ha d).1 h
  have h1 := (topF_ge d.1 a 0 ha (fun r hr _ => by have := ha.all r hr; unfold runP at this; omega)).2 r hr
  rw [topN_right (right_iff.2 ha)]
  unfold inR at hi
  have := h1 hi.1
  omega
theorem above_rt {a b : List Run} (ha : Rt a) (hb : Rt b) : aboveF a b = true ↔ ∀ d, inC b d → inC a d := by
  rw [← below_iff hb ha]
  unfold aboveF cmpF
  rw [right_iff.2 ha, right_iff.2 hb]
  cases belowB a b <;> cases belowB b a <;> decide
theorem least {a b c : List Run} (ha : Rt a) (hb : Rt b) (hc : Rt c) : aboveF (joinF a b) a = true ∧ aboveF (joinF a b) b = true ∧ (aboveF c a = true → aboveF c b = true → aboveF c (joinF a b) = true) ∧
    joinF a b = joinF b a ∧ joinF (joinF a b) c = joinF a (joinF b c) ∧ joinF a a = a ∧ (aboveF a b = true → aboveF b a = true → a = b) := by
  obtain ⟨-, j1, j2⟩ := join_rt ha hb
  obtain ⟨-, k1, k2⟩ := join_rt hb ha
  obtain ⟨-, l1, l2⟩ := join_rt j1 hc
  obtain ⟨-, m1, m2⟩ := join_rt hb hc
  obtain ⟨-, n1, n2⟩ := join_rt ha m1
  obtain ⟨-, o1, o2⟩ := join_rt ha ha
  rw [above_rt j1 ha, above_rt j1 hb, above_rt hc ha, above_rt hc hb, above_rt hc j1, above_rt ha hb, above_rt hb ha]
  refine ⟨fun d h => (j2 d).2 (.inl h), fun d h => (j2 d).2 (.inr h), fun h1 h2 d h => ((j2 d).1 h).elim (h1 d) (h2 d), clk_uniq _ _ j1 k1 (fun d => ?_), clk_uniq _ _ l1 n1 (fun d => ?_), clk_uniq _ _ o1 ha (fun d => ?_), fun h1 h2 => clk_uniq _ _ ha hb (fun d => ⟨h2 d, h1 d⟩)⟩
  · rw [j2, k2, or_comm]
  · rw [l2, j2, n2, m2, or_assoc]
  · rw [o2, or_self]
end Go.Proofs.YthmbdjhlfieldaaGreatDoor

set_option linter.unusedVariables false
set_option linter.unusedSimpArgs false
set_option maxRecDepth 100000
set_option maxHeartbeats 4000000
namespace Go.Proofs.YthmbdjhlfieldaaGreatDoor
open Go.Eng
theorem itemTx_le {x : Item} (h : itemB x = true) : (itemTx x).length ≤ 10000 := by
  obtain ⟨key, ⟨m, n⟩, c, b, v⟩ := x
  obtain ⟨⟨k1, k2⟩, k3, k4, ⟨k5, k6⟩, ⟨k7, k8⟩, k9, k10⟩ := item_ok h
  have hxl := hexL_len (bytesL key)
  have hkl := bytesL_length key
  have hvl := hexL_len v
  have htx : (textL c).length ≤ 2000 := by
    by_cases h0 : c = []
    · subst h0
      show (1 : Nat) ≤ _; omega
    · have ht : textL c = spc (c.map runW) := by unfold textL; rw [k9, if_neg h0]; rfl
      rw [ht]
      have := spc_len (c.map runW) (fun w hw => by obtain ⟨r, hr, rfl⟩ := List.mem_map.1 hw; exact runW_len ((right_iff.1 k9).all r hr))
      rw [List.length_map] at this
      omega
  have hg : goodB (m, n) = true := decide_eq_true ⟨k5, k6, k7, k8⟩
  have hdl : (dotX (m, n)).length ≤ 100 := by
    have h1 := decL_len 12 m.toNat (by omega)
    have h2 := decL_len 12 n.toNat (by omega)
    rw [dotX_dec hg]
    simp only [List.length_append, List.length_singleton]
    omega
  have hvw : (valW b v).length ≤ 200 := by
    unfold valW
    split
    · simp
    · split
      · simp
      · omega
  simp only [itemTx, List.length_append, List.length_cons, List.length_nil]
  omega
theorem above_self {x : Item} : aboveI x x = false := by
  cases h : aboveI x x with
  | false => rfl
  | true =>
    obtain ⟨key, ⟨m, n⟩, c, b, v⟩ := x
    rw [above_eq] at h
    simp only [Bool.and_eq_true] at h
    obtain ⟨-, hi, -, hh⟩ := h
    have k9 := (item_ok hi).hc
    have h1 : n ≤ topN c m := set_top (right_iff.1 k9) hh
    have h2 : topN c m < n := by
      unfold itemB at hi
      simp only [Bool.and_eq_true, decide_eq_true_eq] at hi
      exact hi.2.2.2.2.2.2
    omega
theorem cmpIt_rng (a b : Item) : -1 ≤ cmpIt a b ∧ cmpIt a b ≤ 1 := by
  have hl : ∀ x y : Int, (-1 ≤ x ∧ x ≤ 1) → (-1 ≤ y ∧ y ≤ 1) → -1 ≤ lexO x y ∧ lexO x y ≤ 1 := fun x y hx hy => by
    unfold lexO; split <;> assumption
  have hi : ∀ x y : Int, -1 ≤ cmpI x y ∧ cmpI x y ≤ 1 := fun x y => by
    unfold cmpI; (repeat' split) <;> decide
  unfold cmpIt
  split
  · exact hl _ _ (cb_range _ _) (hl _ _ (hi _ _) (hl _ _ (hi _ _) (cb_range _ _)))
  · decide
@[reducible] def icmpX : Ctr := {
  X := (Item × Item) × Int
  Y := Unit
  args := fun x => [itemV x.1.1, itemV x.1.2]
  rw := fun _ => []
  side := fun x => (itemL x.1.1 ∧ itemL x.1.2) ∧ cmpIt x.1.1 x.1.2 = x.2
  val := fun _ => ()
  ens := fun _ _ => True
  res := fun x _ => .v (.int .i64 x.2)
  out := fun x _ => [] }
theorem icmpX_ok : icmpX.ok Tryz.prog 18 := ctr_re (C := icmpC) (C' := icmpX) (fun x => x.1) (fun x h => ⟨h.1, trivial, rfl, rfl, by show SV.v (.int .i64 x.2) = SV.v (.int .i64 (cmpIt x.1.1 x.1.2)); rw [h.2], rfl⟩) icmp_ok
open Classical in
theorem text_read {x : Item} (h : itemB x = true) (hv : okB x.2.2.2.2) : vI (strOfNums (textI x)) = x ∧ vB (strOfNums (textI x)) = true := by
  have e : textI x = itemTx x := by unfold textI; rw [h, if_pos rfl]
  rw [e]
  obtain ⟨h1, h2⟩ := vOk_iff h hv rfl
  unfold vI vB
  exact ⟨(if_pos h1).trans h2, decide_eq_true h1⟩
@[reducible] def vbkC : Ctr := {
  X := Item × Item × Item
  Y := Unit
  args := fun x => [itemA x.1, itemA x.2.1, itemA x.2.2]
  rw := fun _ => []
  side := fun x => itemZ x.1 ∧ itemZ x.2.1 ∧ itemZ x.2.2
  val := fun _ => ()
  ens := fun _ _ => True
  res := fun _ _ => .v (.bool true)
  out := fun _ _ => [] }
theorem knownVx : Known Tryz.prog (gOf [(7, ver1C), (8, greatX), (14, irightU), (16, ibytesX), (15, ireadC), (11, itextX), (9, iparseX), (13, isameC), (17, iaboveC), (18, icmpX)]) :=
  known_cons ⟨ver1_ok, Tryz.call7⟩ (known_cons ⟨greatX_ok, Tryz.call8⟩ (known_cons ⟨iright_re iright_ok, Tryz.call14⟩ (known_cons ⟨ibytesX_ok, Tryz.call16⟩ (known_cons ⟨iread_ok, Tryz.call15⟩ (known_cons ⟨itextX_re itext_ok, Tryz.call11⟩
    (known_cons ⟨iparse_ok, Tryz.call9⟩ (known_cons ⟨isame_ok, Tryz.call13⟩ (known_cons ⟨iabove_ok, Tryz.call17⟩ (known_cons ⟨icmpX_ok, Tryz.call18⟩ (known_nil _))))))))))
theorem vbk_ok : vbkC.ok Tryz.prog 4 := by
  refine ok_of_vc (An := fun _ => anOf []) knownVx mo Tryz.func4 (by kernel_rfl) (by kernel_rfl) (fun _ _ => trivial) (fun (x : Item × Item × Item) hs => ?_)
  obtain ⟨a, b, c⟩ := x
  obtain ⟨za, zb, zc⟩ := hs
  have za : itemZ a := za
  have zb : itemZ b := zb
  have zc : itemZ c := zc
  obtain ⟨n, hn⟩ : ∃ n, greatF 0 [a, b, c] = n := ⟨_, rfl⟩
  have s0 : greatX.side ([a, b, c], n) := ⟨⟨by show (3 : Nat) ≤ _; omega, fun i hi => by
    simp only [List.mem_cons, List.not_mem_nil, or_false] at hi
    rcases hi with rfl | rfl | rfl
    · exact za.1
    · exact zb.1
    · exact zc.1⟩, hn⟩
  clear hn
  cases ia : itemB a with
  | false =>
    obtain ⟨k, ⟨u, w⟩, p, g, v⟩ := a
    obtain ⟨k', ⟨u', w'⟩, p', g', v'⟩ := b
    obtain ⟨k2, ⟨u2, w2⟩, p2, g2, v2⟩ := c
    have s1 : irightU.side (k, (u, w), p, g, v) := za.1
    have ck : Hc ver1C () (Hc greatX ([(k, (u, w), p, g, v), (k', (u', w'), p', g', v'), (k2, (u2, w2), p2, g2, v2)], n) (Hc irightU (k, (u, w), p, g, v) True)) := ⟨⟨⟨trivial⟩⟩⟩
    have lm := ia
    exact G1
  | true => cases ib : itemB b with
    | false =>
      obtain ⟨k, ⟨u, w⟩, p, g, v⟩ := a
      obtain ⟨k', ⟨u', w'⟩, p', g', v'⟩ := b
      obtain ⟨k2, ⟨u2, w2⟩, p2, g2, v2⟩ := c
      have s1 : irightU.side (k, (u, w), p, g, v) := za.1
      have s2 : irightU.side (k', (u', w'), p', g', v') := zb.1
      have ck : Hc ver1C () (Hc greatX ([(k, (u, w), p, g, v), (k', (u', w'), p', g', v'), (k2, (u2, w2), p2, g2, v2)], n) (Hc irightU (k, (u, w), p, g, v) (Hc irightU (k', (u', w'), p', g', v') True))) := ⟨⟨⟨⟨trivial⟩⟩⟩⟩
      have lm := And.intro ia ib
      exact G1
    | true => cases ic : itemB c with
      | false =>
        obtain ⟨k, ⟨u, w⟩, p, g, v⟩ := a
        obtain ⟨k', ⟨u', w'⟩, p', g', v'⟩ := b
        obtain ⟨k2, ⟨u2, w2⟩, p2, g2, v2⟩ := c
        have s1 : irightU.side (k, (u, w), p, g, v) := za.1
        have s2 : irightU.side (k', (u', w'), p', g', v') := zb.1
        have s3 : irightU.side (k2, (u2, w2), p2, g2, v2) := zc.1
        have ck : Hc ver1C () (Hc greatX ([(k, (u, w), p, g, v), (k', (u', w'), p', g', v'), (k2, (u2, w2), p2, g2, v2)], n) (Hc irightU (k, (u, w), p, g, v) (Hc irightU (k', (u', w'), p', g', v') (Hc irightU (k2, (u2, w2), p2, g2, v2) True)))) := ⟨⟨⟨⟨⟨trivial⟩⟩⟩⟩⟩
        have lm := And.intro ia (And.intro ib ic)
        exact G1
      | true =>
        obtain ⟨l1, l2, l3⟩ := cmpIt_law ia ib ic za.2 zb.2 zc.2
        obtain ⟨p, hp⟩ : ∃ p, cmpIt a b = p := ⟨_, rfl⟩
        obtain ⟨q, hq⟩ : ∃ p, cmpIt b c = p := ⟨_, rfl⟩
        obtain ⟨r, hr⟩ : ∃ p, cmpIt b a = p := ⟨_, rfl⟩
        obtain ⟨t, ht⟩ : ∃ p, cmpIt a c = p := ⟨_, rfl⟩
        rw [hr, hp] at l1
        rw [hp] at l2
        rw [hp, hq, ht] at l3
        have hrng := cmpIt_rng b a
        rw [hr] at hrng
        have l5 : IntKind.i64.wrap (0 - r) = p := by rw [wrap_i64 (by omega) (by omega)]; omega
        clear l1
        have hB := read_bytes ia
        obtain ⟨B, hBn⟩ : ∃ B, itemBs a = B := ⟨_, rfl⟩
        have hbs : itemBs a = itemBy a := by unfold itemBs; rw [ia]; rfl
        have hBl : B.length ≤ 28000 := by
          rw [← hBn, hbs]
          obtain ⟨k, ⟨u, w⟩, p, g, v⟩ := a
          exact itemBy_le ia
        have hBy : okY B := by rw [← hBn, hbs]; exact okB_by ia za.2
        rw [← hbs, hBn] at hB
        obtain ⟨h5, h6⟩ := text_read ia za.2
        have hTl : (strOfNums (textI a)).size ≤ 100000 := by
          have := itemTx_le ia
          rw [str_size]; unfold textI; rw [ia, if_pos rfl]; omega
        obtain ⟨T, hT⟩ : ∃ T, strOfNums (textI a) = T := ⟨_, rfl⟩
        rw [hT] at h5 h6 hTl
        have ha := @above_self a
        have s1 : irightU.side a := za.1
        have s2 : irightU.side b := zb.1
        have s3 : irightU.side c := zc.1
        have s4 : ibytesX.side (a, B) := ⟨za.1, hBn⟩
        have s5 : ireadC.side ⟨B, a, 0⟩ := ⟨⟨hBy, by show B.length ≤ _; omega⟩, hB⟩
        have s6 : itextX.side (a, T) := ⟨za, hT⟩
        have s7 : iparseX.side (T, a, true) := ⟨hTl, h5, h6⟩
        have s8 : isameC.side (a, a) := ⟨za, za⟩
        have s9 : iaboveC.side (a, a) := ⟨za, za⟩
        have s10 : icmpX.side ((a, b), p) := ⟨⟨za.1, zb.1⟩, hp⟩
        have s11 : icmpX.side ((b, c), q) := ⟨⟨zb.1, zc.1⟩, hq⟩
        have s12 : icmpX.side ((b, a), r) := ⟨⟨zb.1, za.1⟩, hr⟩
        have s13 : icmpX.side ((a, c), t) := ⟨⟨za.1, zc.1⟩, ht⟩
        have s14 : isameC.side (a, b) := ⟨za, zb⟩
        have ck : Hc ver1C () (Hc greatX ([a, b, c], n) (Hc irightU a (Hc irightU b (Hc irightU c (Hc ibytesX (a, B) (Hc ireadC ⟨B, a, 0⟩ (Hc itextX (a, T) (Hc iparseX (T, a, true) (Hc isameC (a, a) (Hc isameC (a, a) (Hc iaboveC (a, a) (Hc icmpX ((a, b), p) (Hc icmpX ((b, c), q) (Hc icmpX ((b, a), r) (Hc isameC (a, b) (Hc icmpX ((a, c), t) True)))))))))))))))) := ⟨⟨⟨⟨⟨⟨⟨⟨⟨⟨⟨⟨⟨⟨⟨⟨⟨trivial⟩⟩⟩⟩⟩⟩⟩⟩⟩⟩⟩⟩⟩⟩⟩⟩⟩
        have d1 : decide (a = a) = true := decide_eq_true rfl
        clear hp hq hr ht hB hBn hbs h5 h6 hT
        obtain ⟨e, he⟩ : ∃ e, decide (a = b) = e := ⟨_, rfl⟩
        have l4 : (p == 0) = e := by rw [← he, Bool.eq_iff_iff, beq_iff_eq, decide_eq_true_eq]; exact l2
        clear l2
        obtain ⟨k, ⟨u, w⟩, pa, g, v⟩ := a
        obtain ⟨k', ⟨u', w'⟩, p', g', v'⟩ := b
        obtain ⟨k2, ⟨u2, w2⟩, p2, g2, v2⟩ := c
        rcases Int.lt_or_le 0 p with hp | hp
        · have n1 : ¬ p ≤ 0 := by omega
          have lm := And.intro ia (And.intro ib (And.intro ic (And.intro d1 (And.intro ha (And.intro l5 (And.intro l4 (And.intro he (And.intro beqI beqB))))))))
          exact G1
        · rcases Int.lt_or_le 0 q with hq | hq
          · have n1 : ¬ q ≤ 0 := by omega
            have lm := And.intro ia (And.intro ib (And.intro ic (And.intro d1 (And.intro ha (And.intro l5 (And.intro l4 (And.intro he (And.intro beqI beqB))))))))
            exact G1
          · have n1 : t ≤ 0 := l3 hp hq
            have lm := And.intro ia (And.intro ib (And.intro ic (And.intro d1 (And.intro ha (And.intro l5 (And.intro l4 (And.intro he (And.intro beqI beqB))))))))
            exact G1
end Go.Proofs.YthmbdjhlfieldaaGreatDoor

set_option linter.unusedVariables false
set_option linter.unusedSimpArgs false
set_option maxRecDepth 100000
set_option maxHeartbeats 40000000
namespace Go.Proofs.YthmbdjhlfieldaaGreatDoor
open Go.Eng
@[reducible] def ricmpX : Ctr := {
  X := (Item × Item) × Int
  Y := Unit
  args := fun x => [itemV x.1.1, itemV x.1.2]
  rw := fun _ => []
  side := fun x => ((itemZ x.1.1 ∧ itemB x.1.1 = true) ∧ (itemZ x.1.2 ∧ itemB x.1.2 = true)) ∧ cmpIt x.1.1 x.1.2 = x.2
  val := fun _ => ()
  ens := fun _ _ => True
  res := fun x _ => .v (.int .i64 x.2)
  out := fun x _ => [] }
theorem ricmpX_ok : ricmpX.ok Tryz.prog 20 := ctr_re (C := ricmpC) (C' := ricmpX) (fun x => x.1) (fun x h => ⟨h.1, trivial, rfl, rfl, by show SV.v (.int .i64 x.2) = SV.v (.int .i64 (cmpIt x.1.1 x.1.2)); rw [h.2], rfl⟩) ricmp_ok
@[reducible] def imarkX : Ctr := {
  X := Item × (Nat → Int)
  Y := Unit
  args := fun x => [itemV x.1]
  rw := fun _ => []
  side := fun x => (itemL x.1 ∧ okY x.1.2.2.2.2) ∧ imkF x.1 = x.2
  val := fun _ => ()
  ens := fun _ _ => True
  res := fun x _ => .agg (mk16 x.2)
  out := fun _ _ => [] }
theorem imarkX_re {f : FuncId} (h : imarkV.ok Tryz.prog f) : imarkX.ok Tryz.prog f := ctr_re (C := imarkV) (C' := imarkX) (fun x => x.1) (fun x h => ⟨h.1, trivial, rfl, rfl, by show SV.agg (mk16 x.2) = SV.agg (mk16 (imkF x.1)); rw [h.2], rfl⟩) h
@[reducible] def ihexX : Ctr := {
  X := (Nat → Int) × ByteArray
  Y := Unit
  args := fun x => [.agg (mk16 x.1)]
  rw := fun _ => []
  side := fun x => (∀ j, 0 ≤ x.1 j ∧ x.1 j < 256) ∧ strOfNums (hexL (l16 x.1)) = x.2
  val := fun _ => ()
  ens := fun _ _ => True
  res := fun x _ => .v (.string x.2)
  out := fun _ _ => [] }
theorem ihexX_ok : ihexX.ok Tryz.prog 26 := ctr_re (C := ihexC) (C' := ihexX) (fun x => x.1) (fun x h => ⟨h.1, trivial, rfl, rfl, by show SV.v (.string x.2) = SV.v (.string (strOfNums (hexL (l16 x.1)))); rw [h.2], rfl⟩) ihex_ok
@[reducible] def rHexX : Ctr := {
  X := ByteArray × ByteArray
  Y := Unit
  args := fun x => [.v (.string x.1)]
  rw := fun _ => []
  side := fun x => x.1.size ≤ 100000000000 ∧ strOfNums (hexL (bytesL x.1)) = x.2
  val := fun _ => ()
  ens := fun _ _ => True
  res := fun x _ => .v (.string x.2)
  out := fun _ _ => [] }
theorem rHexX_ok : rHexX.ok Tryz.prog 27 := ctr_re (C := rHexC) (C' := rHexX) (fun x => x.1) (fun x h => ⟨h.1, trivial, rfl, rfl, by show SV.v (.string x.2) = SV.v (.string (strOfNums (hexL (bytesL x.1)))); rw [h.2], rfl⟩) rHex_ok
@[reducible] def cellsI (x : Item) : List SV := [.v (.string x.1), .v (.int .i64 x.2.1.1), .v (.int .i64 x.2.1.2), .ro false runT x.2.2.1, .v (.bool x.2.2.2.1), .ro false (.int .u8) x.2.2.2.2]
@[reducible] def telM (a b : Item) (f : Nat → Int) (k : ByteArray) (u w : Int) (g : Bool) (c : List Run) (v : List Int) : En :=
  [(3, .cells 28 (cellsI a)), (4, .cells 28 (cellsI b)), (5, .cells 44 (mk16 f)), (8, .cells 28 [.v (.string k), .v (.int .i64 u), .v (.int .i64 w), .sl 10, .v (.bool g), .sl 11]), (10, .row 47 runT c), (11, .row 5 (.int .u8) v)]
structure TelX where
  a : Item
  b : Item
  f : Nat → Int
def telN (x : TelX) : Int := if itemB x.a && itemB x.b then cmpIt x.a x.b else 0
@[reducible] def telA (x : TelX) : LA := {
  X := Nat × List Int
  pre := fun s => s.1 ≤ x.a.2.2.2.2.length ∧ s.2.length = x.a.2.2.2.2.length
  mu := fun s => x.a.2.2.2.2.length - s.1
  T := fun s => [(3, .ptr 3 0), (4, .ptr 4 0), (5, .ptr 5 0), (7, .v (.int .i64 (telN x))), (8, .ptr 8 0), (35, .v (.int .i64 x.a.2.2.2.2.length)), (36, .v (.int .i64 (s.1 : Nat)))]
  M := fun s => telM x.a x.b x.f x.a.1 x.a.2.1.1 x.a.2.1.2 x.a.2.2.2.1 x.a.2.2.1 s.2 }
@[reducible] def telB (x : TelX) : LA := {
  X := (Nat × List Run) × List Int
  pre := fun s => s.1.1 ≤ x.a.2.2.1.length ∧ s.1.2.length = x.a.2.2.1.length
  mu := fun s => x.a.2.2.1.length - s.1.1
  T := fun s => [(3, .ptr 3 0), (4, .ptr 4 0), (5, .ptr 5 0), (7, .v (.int .i64 (telN x))), (8, .ptr 8 0), (49, .v (.int .i64 x.a.2.2.1.length)), (50, .v (.int .i64 (s.1.1 : Nat)))]
  M := fun s => telM x.a x.b x.f x.a.1 x.a.2.1.1 x.a.2.1.2 x.a.2.2.2.1 s.1.2 s.2 }
@[reducible] def vtlC : Ctr := {
  X := TelX
  Y := Unit
  args := fun x => [itemA x.a, itemA x.b, .agg (mk16 x.f)]
  rw := fun _ => []
  side := fun x => itemZ x.a ∧ itemZ x.b ∧ ∀ j, 0 ≤ x.f j ∧ x.f j < 256
  val := fun _ => ()
  ens := fun _ _ => True
  res := fun _ _ => .v (.bool true)
  out := fun _ _ => [] }
theorem knownVz : Known Tryz.prog (gOf [(7, ver1C), (8, greatX), (19, irightU), (20, ricmpX), (21, icloneC), (13, isameC), (14, irightU), (17, iaboveC), (22, iaboveC), (23, isameC),
    (18, icmpX), (24, imarkX), (25, imarkX), (26, ihexX), (27, rHexX)]) :=
  known_cons ⟨ver1_ok, Tryz.call7⟩ (known_cons ⟨greatX_ok, Tryz.call8⟩ (known_cons ⟨iright_re riright_ok, Tryz.call19⟩ (known_cons ⟨ricmpX_ok, Tryz.call20⟩ (known_cons ⟨iclone_ok, Tryz.call21⟩ (known_cons ⟨isame_ok, Tryz.call13⟩
    (known_cons ⟨iright_re iright_ok, Tryz.call14⟩ (known_cons ⟨iabove_ok, Tryz.call17⟩ (known_cons ⟨riabove_ok, Tryz.call22⟩ (known_cons ⟨risame_ok, Tryz.call23⟩ (known_cons ⟨icmpX_ok, Tryz.call18⟩ (known_cons ⟨imarkX_re imarkV_ok, Tryz.call24⟩
      (known_cons ⟨imarkX_re rimark_ok, Tryz.call25⟩ (known_cons ⟨ihexX_ok, Tryz.call26⟩ (known_cons ⟨rHexX_ok, Tryz.call27⟩ (known_nil _)))))))))))))))
theorem vtl_ok : vtlC.ok Tryz.prog 5 := by
  refine ok_of_vc (An := fun x => anOf [(0, .loop (telA x)), (2, .loop (telB x))]) knownVz mo Tryz.func5 (by kernel_rfl) (by kernel_rfl) (fun _ _ => trivial) (fun (x : TelX) hs => ?_)
  obtain ⟨a, b, f⟩ := x
  obtain ⟨za, zb, hf⟩ := hs
  have za : itemZ a := za
  have zb : itemZ b := zb
  have hf : ∀ j, 0 ≤ f j ∧ f j < 256 := hf
  obtain ⟨n, hn⟩ : ∃ n, greatF 0 [a, b] = n := ⟨_, rfl⟩
  have s0 : greatX.side ([a, b], n) := ⟨⟨by show (2 : Nat) ≤ _; omega, fun i hi => by
    simp only [List.mem_cons, List.not_mem_nil, or_false] at hi
    rcases hi with rfl | rfl
    · exact za.1
    · exact zb.1⟩, hn⟩
  obtain ⟨p, hp⟩ : ∃ p, cmpIt a b = p := ⟨_, rfl⟩
  obtain ⟨F, hF⟩ : ∃ p, imkF a = p := ⟨_, rfl⟩
  obtain ⟨H, hH⟩ : ∃ p, strOfNums (hexL (l16 f)) = p := ⟨_, rfl⟩
  have hbl : bytesL (strOfNums (l16 f)) = l16 f := bytes_str (l16_okB hf)
  have hN : telN ⟨a, b, f⟩ = p := by
    unfold telN
    dsimp only
    split
    · exact hp
    · rename_i h
      rw [← hp]; unfold cmpIt; rw [if_neg h]
  by_cases hgr : n > 1000
  · obtain ⟨k, ⟨u, w⟩, c, g, v⟩ := a
    obtain ⟨k', ⟨u', w'⟩, c', g', v'⟩ := b
    have ck : Hc ver1C () (Hc greatX ([(k, (u, w), c, g, v), (k', (u', w'), c', g', v')], n) True) := ⟨⟨trivial⟩⟩
    exact G1
  obtain ⟨⟨g1, g2, g3⟩, -⟩ := great_two (a := a) (b := b) (by rw [hn]; exact hgr)
  have s1 : irightU.side a := za.1
  have s2 : irightU.side b := zb.1
  have s4 : icloneC.side a := ⟨by omega, by omega⟩
  have s5 : isameC.side (a, a) := ⟨za, za⟩
  have s6 : iaboveC.side (a, b) := ⟨za, zb⟩
  have s7 : isameC.side (a, b) := ⟨za, zb⟩
  have s8 : icmpX.side ((a, b), p) := ⟨⟨za.1, zb.1⟩, hp⟩
  have s9 : imarkX.side (a, F) := ⟨za, hF⟩
  have s10 : ihexX.side (f, H) := ⟨hf, hH⟩
  have s11 : rHexX.side (strOfNums (l16 f), H) := ⟨by rw [str_size]; show (16 : Nat) ≤ _; omega, by show strOfNums (hexL (bytesL (strOfNums (l16 f)))) = H; rw [hbl, hH]⟩
  have d1 : decide (a = a) = true := decide_eq_true rfl
  clear hn hH hbl hF
  cases ia : itemB a with
  | false =>
    have hN : telN ⟨a, b, f⟩ = 0 ∧ p = 0 := by
      have : p = 0 := by rw [← hp]; unfold cmpIt; rw [ia]; rfl
      exact ⟨hN.trans this, this⟩
    clear hp
    obtain ⟨k, ⟨u, w⟩, c, g, v⟩ := a
    obtain ⟨k', ⟨u', w'⟩, c', g', v'⟩ := b
    dsimp only at g1 g2 g3
    have ck : Hc ver1C () (Hc greatX ([(k, (u, w), c, g, v), (k', (u', w'), c', g', v')], n) (Hc irightU (k, (u, w), c, g, v) (Hc icloneC (k, (u, w), c, g, v) (Hc isameC ((k, (u, w), c, g, v), (k, (u, w), c, g, v)) True)))) := ⟨⟨⟨⟨⟨trivial⟩⟩⟩⟩⟩
    have lm := And.intro ia (And.intro d1 hN)
    (refine Z ?_; repeat' (first | exact .intro | ((first | refine B1 (fun h => ?_) fun h => ?_ | refine B2 fun y he he' hy => ?_ | refine B3 fun y he hy => ?_ | refine B4 fun y hy => ?_ | refine B5 fun ck => ?_ | fail) <;> refine Z ?_)))
    refine Some'.mk (0, v) ?_
    (refine Z ?_; repeat' (first | exact .intro | ((first | refine B1 (fun h => ?_) fun h => ?_ | refine B2 fun y he he' hy => ?_ | refine B3 fun y he hy => ?_ | refine B4 fun y hy => ?_ | refine B5 fun ck => ?_ | fail) <;> refine Z ?_)))
    refine AllI.mk ?_
    rintro ⟨i, v2⟩ ⟨h1, h2⟩
    dsimp only at h1 h2
    rcases Nat.lt_or_ge i v.length with hlt | hge
    · obtain ⟨x, hx⟩ := get_ex (by rw [h2]; exact hlt : i < v2.length)
      (refine Zm ?_; repeat' (first | exact .intro | ((first | refine B1 (fun h => ?_) fun h => ?_ | refine B2 fun y he he' hy => ?_ | refine B3 fun y he hy => ?_ | refine B4 fun y hy => ?_ | refine B5 fun ck => ?_ | fail) <;> refine Zm ?_)))
      refine All'.mk ?_
      rintro (y : Int) hy
      obtain rfl : x = y := Option.some.inj (hx.symm.trans hy)
      clear hy
      (refine Zm ?_; repeat' (first | exact .intro | ((first | refine B1 (fun h => ?_) fun h => ?_ | refine B2 fun y he he' hy => ?_ | refine B3 fun y he hy => ?_ | refine B4 fun y hy => ?_ | refine B5 fun ck => ?_ | fail) <;> refine Zm ?_)))
      refine Ar.wrap ?_
      (refine Zm ?_; repeat' (first | exact .intro | ((first | refine B1 (fun h => ?_) fun h => ?_ | refine B2 fun y he he' hy => ?_ | refine B3 fun y he hy => ?_ | refine B4 fun y hy => ?_ | refine B5 fun ck => ?_ | fail) <;> refine Zm ?_)))
      refine All'.mk ?_
      rintro (y : Int) hy
      obtain rfl : x = y := Option.some.inj (hx.symm.trans hy)
      clear hy
      (refine Zm ?_; repeat' (first | exact .intro | ((first | refine B1 (fun h => ?_) fun h => ?_ | refine B2 fun y he he' hy => ?_ | refine B3 fun y he hy => ?_ | refine B4 fun y hy => ?_ | refine B5 fun ck => ?_ | fail) <;> refine Zm ?_)))
      refine Some'.mk (IntKind.u8.wrap (x + 1)) ?_
      refine Eqn.mk rfl ?_
      (refine Z ?_; repeat' (first | exact .intro | ((first | refine B1 (fun h => ?_) fun h => ?_ | refine B2 fun y he he' hy => ?_ | refine B3 fun y he hy => ?_ | refine B4 fun y hy => ?_ | refine B5 fun ck => ?_ | fail) <;> refine Z ?_)))
      refine Some'.mk (i + 1, v2.set i (IntKind.u8.wrap (x + 1))) ?_
      (refine Z ?_; repeat' (first | exact .intro | ((first | refine B1 (fun h => ?_) fun h => ?_ | refine B2 fun y he he' hy => ?_ | refine B3 fun y he hy => ?_ | refine B4 fun y hy => ?_ | refine B5 fun ck => ?_ | fail) <;> refine Z ?_)))
      refine Ask.mk ⟨by show i + 1 ≤ v.length; omega, by show (v2.set i _).length = v.length; rw [List.length_set]; exact h2⟩ ?_
      exact G1
    · (refine Z ?_; repeat' (first | exact .intro | ((first | refine B1 (fun h => ?_) fun h => ?_ | refine B2 fun y he he' hy => ?_ | refine B3 fun y he hy => ?_ | refine B4 fun y hy => ?_ | refine B5 fun ck => ?_ | fail) <;> refine Z ?_)))
      refine Some'.mk ((0, c), v2) ?_
      (refine Z ?_; repeat' (first | exact .intro | ((first | refine B1 (fun h => ?_) fun h => ?_ | refine B2 fun y he he' hy => ?_ | refine B3 fun y he hy => ?_ | refine B4 fun y hy => ?_ | refine B5 fun ck => ?_ | fail) <;> refine Z ?_)))
      clear h1 h2 hge
      refine AllI.mk ?_
      rintro ⟨⟨i, c2⟩, v3⟩ ⟨h1, h2⟩
      dsimp only at h1 h2
      rcases Nat.lt_or_ge i c.length with hlt | hge
      · obtain ⟨⟨x1, x2, x3⟩, hx⟩ := get_ex (by rw [h2]; exact hlt : i < c2.length)
        (refine Zm ?_; repeat' (first | exact .intro | ((first | refine B1 (fun h => ?_) fun h => ?_ | refine B2 fun y he he' hy => ?_ | refine B3 fun y he hy => ?_ | refine B4 fun y hy => ?_ | refine B5 fun ck => ?_ | fail) <;> refine Zm ?_)))
        refine All'.mk ?_
        rintro (y : Run) hy
        obtain rfl : (x1, x2, x3) = y := Option.some.inj (hx.symm.trans hy)
        clear hy
        (refine Zm ?_; repeat' (first | exact .intro | ((first | refine B1 (fun h => ?_) fun h => ?_ | refine B2 fun y he he' hy => ?_ | refine B3 fun y he hy => ?_ | refine B4 fun y hy => ?_ | refine B5 fun ck => ?_ | fail) <;> refine Zm ?_)))
        refine Ar.wrap ?_
        (refine Zm ?_; repeat' (first | exact .intro | ((first | refine B1 (fun h => ?_) fun h => ?_ | refine B2 fun y he he' hy => ?_ | refine B3 fun y he hy => ?_ | refine B4 fun y hy => ?_ | refine B5 fun ck => ?_ | fail) <;> refine Zm ?_)))
        refine All'.mk ?_
        rintro (y : Run) hy
        obtain rfl : (x1, x2, x3) = y := Option.some.inj (hx.symm.trans hy)
        clear hy
        (refine Zm ?_; repeat' (first | exact .intro | ((first | refine B1 (fun h => ?_) fun h => ?_ | refine B2 fun y he he' hy => ?_ | refine B3 fun y he hy => ?_ | refine B4 fun y hy => ?_ | refine B5 fun ck => ?_ | fail) <;> refine Zm ?_)))
        refine Some'.mk (x1, x2, IntKind.i64.wrap (x3 + 1)) ?_
        refine Eqn.mk rfl ?_
        (refine Z ?_; repeat' (first | exact .intro | ((first | refine B1 (fun h => ?_) fun h => ?_ | refine B2 fun y he he' hy => ?_ | refine B3 fun y he hy => ?_ | refine B4 fun y hy => ?_ | refine B5 fun ck => ?_ | fail) <;> refine Z ?_)))
        refine Some'.mk ((i + 1, c2.set i (x1, x2, IntKind.i64.wrap (x3 + 1))), v3) ?_
        (refine Z ?_; repeat' (first | exact .intro | ((first | refine B1 (fun h => ?_) fun h => ?_ | refine B2 fun y he he' hy => ?_ | refine B3 fun y he hy => ?_ | refine B4 fun y hy => ?_ | refine B5 fun ck => ?_ | fail) <;> refine Z ?_)))
        refine Ask.mk ⟨by show i + 1 ≤ c.length; omega, by show (c2.set i _).length = c.length; rw [List.length_set]; exact h2⟩ ?_
        exact G1
      · have ck : Hc irightU (k, (u, w), c, g, v) (Hc irightU (k, (u, w), c, g, v) (Hc iaboveC ((k, (u, w), c, g, v), (k', (u', w'), c', g', v')) (Hc iaboveC ((k, (u, w), c, g, v), (k', (u', w'), c', g', v')) (Hc isameC ((k, (u, w), c, g, v), (k', (u', w'), c', g', v')) (Hc isameC ((k, (u, w), c, g, v), (k', (u', w'), c', g', v')) (Hc icmpX (((k, (u, w), c, g, v), (k', (u', w'), c', g', v')), p)
          (Hc imarkX ((k, (u, w), c, g, v), F) (Hc imarkX ((k, (u, w), c, g, v), F) (Hc ihexX (f, H) (Hc rHexX (strOfNums (l16 f), H) True)))))))))) := ⟨⟨⟨⟨⟨⟨⟨⟨⟨⟨⟨trivial⟩⟩⟩⟩⟩⟩⟩⟩⟩⟩⟩
        have lm := And.intro ia (And.intro d1 (And.intro hN (And.intro beqB (And.intro beqI (And.intro beqL Bool.true_and)))))
        exact G1
  | true => cases ib : itemB b with
    | false =>
      have hN : telN ⟨a, b, f⟩ = 0 ∧ p = 0 := by
        have : p = 0 := by rw [← hp]; unfold cmpIt; rw [ia, ib]; rfl
        exact ⟨hN.trans this, this⟩
      clear hp
      obtain ⟨k, ⟨u, w⟩, c, g, v⟩ := a
      obtain ⟨k', ⟨u', w'⟩, c', g', v'⟩ := b
      dsimp only at g1 g2 g3
      have ck : Hc ver1C () (Hc greatX ([(k, (u, w), c, g, v), (k', (u', w'), c', g', v')], n) (Hc irightU (k, (u, w), c, g, v) (Hc irightU (k', (u', w'), c', g', v') (Hc icloneC (k, (u, w), c, g, v) (Hc isameC ((k, (u, w), c, g, v), (k, (u, w), c, g, v)) True))))) := ⟨⟨⟨⟨⟨⟨trivial⟩⟩⟩⟩⟩⟩
      have lm := And.intro ia (And.intro ib (And.intro d1 hN))
      (refine Z ?_; repeat' (first | exact .intro | ((first | refine B1 (fun h => ?_) fun h => ?_ | refine B2 fun y he he' hy => ?_ | refine B3 fun y he hy => ?_ | refine B4 fun y hy => ?_ | refine B5 fun ck => ?_ | fail) <;> refine Z ?_)))
      refine Some'.mk (0, v) ?_
      (refine Z ?_; repeat' (first | exact .intro | ((first | refine B1 (fun h => ?_) fun h => ?_ | refine B2 fun y he he' hy => ?_ | refine B3 fun y he hy => ?_ | refine B4 fun y hy => ?_ | refine B5 fun ck => ?_ | fail) <;> refine Z ?_)))
      refine AllI.mk ?_
      rintro ⟨i, v2⟩ ⟨h1, h2⟩
      dsimp only at h1 h2
      rcases Nat.lt_or_ge i v.length with hlt | hge
      · obtain ⟨x, hx⟩ := get_ex (by rw [h2]; exact hlt : i < v2.length)
        (refine Zm ?_; repeat' (first | exact .intro | ((first | refine B1 (fun h => ?_) fun h => ?_ | refine B2 fun y he he' hy => ?_ | refine B3 fun y he hy => ?_ | refine B4 fun y hy => ?_ | refine B5 fun ck => ?_ | fail) <;> refine Zm ?_)))
        refine All'.mk ?_
        rintro (y : Int) hy
        obtain rfl : x = y := Option.some.inj (hx.symm.trans hy)
        clear hy
        (refine Zm ?_; repeat' (first | exact .intro | ((first | refine B1 (fun h => ?_) fun h => ?_ | refine B2 fun y he he' hy => ?_ | refine B3 fun y he hy => ?_ | refine B4 fun y hy => ?_ | refine B5 fun ck => ?_ | fail) <;> refine Zm ?_)))
        refine Ar.wrap ?_
        (refine Zm ?_; repeat' (first | exact .intro | ((first | refine B1 (fun h => ?_) fun h => ?_ | refine B2 fun y he he' hy => ?_ | refine B3 fun y he hy => ?_ | refine B4 fun y hy => ?_ | refine B5 fun ck => ?_ | fail) <;> refine Zm ?_)))
        refine All'.mk ?_
        rintro (y : Int) hy
        obtain rfl : x = y := Option.some.inj (hx.symm.trans hy)
        clear hy
        (refine Zm ?_; repeat' (first | exact .intro | ((first | refine B1 (fun h => ?_) fun h => ?_ | refine B2 fun y he he' hy => ?_ | refine B3 fun y he hy => ?_ | refine B4 fun y hy => ?_ | refine B5 fun ck => ?_ | fail) <;> refine Zm ?_)))
        refine Some'.mk (IntKind.u8.wrap (x + 1)) ?_
        refine Eqn.mk rfl ?_
        (refine Z ?_; repeat' (first | exact .intro | ((first | refine B1 (fun h => ?_) fun h => ?_ | refine B2 fun y he he' hy => ?_ | refine B3 fun y he hy => ?_ | refine B4 fun y hy => ?_ | refine B5 fun ck => ?_ | fail) <;> refine Z ?_)))
        refine Some'.mk (i + 1, v2.set i (IntKind.u8.wrap (x + 1))) ?_
        (refine Z ?_; repeat' (first | exact .intro | ((first | refine B1 (fun h => ?_) fun h => ?_ | refine B2 fun y he he' hy => ?_ | refine B3 fun y he hy => ?_ | refine B4 fun y hy => ?_ | refine B5 fun ck => ?_ | fail) <;> refine Z ?_)))
        refine Ask.mk ⟨by show i + 1 ≤ v.length; omega, by show (v2.set i _).length = v.length; rw [List.length_set]; exact h2⟩ ?_
        exact G1
      · (refine Z ?_; repeat' (first | exact .intro | ((first | refine B1 (fun h => ?_) fun h => ?_ | refine B2 fun y he he' hy => ?_ | refine B3 fun y he hy => ?_ | refine B4 fun y hy => ?_ | refine B5 fun ck => ?_ | fail) <;> refine Z ?_)))
        refine Some'.mk ((0, c), v2) ?_
        (refine Z ?_; repeat' (first | exact .intro | ((first | refine B1 (fun h => ?_) fun h => ?_ | refine B2 fun y he he' hy => ?_ | refine B3 fun y he hy => ?_ | refine B4 fun y hy => ?_ | refine B5 fun ck => ?_ | fail) <;> refine Z ?_)))
        clear h1 h2 hge
        refine AllI.mk ?_
        rintro ⟨⟨i, c2⟩, v3⟩ ⟨h1, h2⟩
        dsimp only at h1 h2
        rcases Nat.lt_or_ge i c.length with hlt | hge
        · obtain ⟨⟨x1, x2, x3⟩, hx⟩ := get_ex (by rw [h2]; exact hlt : i < c2.length)
          (refine Zm ?_; repeat' (first | exact .intro | ((first | refine B1 (fun h => ?_) fun h => ?_ | refine B2 fun y he he' hy => ?_ | refine B3 fun y he hy => ?_ | refine B4 fun y hy => ?_ | refine B5 fun ck => ?_ | fail) <;> refine Zm ?_)))
          refine All'.mk ?_
          rintro (y : Run) hy
          obtain rfl : (x1, x2, x3) = y := Option.some.inj (hx.symm.trans hy)
          clear hy
          (refine Zm ?_; repeat' (first | exact .intro | ((first | refine B1 (fun h => ?_) fun h => ?_ | refine B2 fun y he he' hy => ?_ | refine B3 fun y he hy => ?_ | refine B4 fun y hy => ?_ | refine B5 fun ck => ?_ | fail) <;> refine Zm ?_)))
          refine Ar.wrap ?_
          (refine Zm ?_; repeat' (first | exact .intro | ((first | refine B1 (fun h => ?_) fun h => ?_ | refine B2 fun y he he' hy => ?_ | refine B3 fun y he hy => ?_ | refine B4 fun y hy => ?_ | refine B5 fun ck => ?_ | fail) <;> refine Zm ?_)))
          refine All'.mk ?_
          rintro (y : Run) hy
          obtain rfl : (x1, x2, x3) = y := Option.some.inj (hx.symm.trans hy)
          clear hy
          (refine Zm ?_; repeat' (first | exact .intro | ((first | refine B1 (fun h => ?_) fun h => ?_ | refine B2 fun y he he' hy => ?_ | refine B3 fun y he hy => ?_ | refine B4 fun y hy => ?_ | refine B5 fun ck => ?_ | fail) <;> refine Zm ?_)))
          refine Some'.mk (x1, x2, IntKind.i64.wrap (x3 + 1)) ?_
          refine Eqn.mk rfl ?_
          (refine Z ?_; repeat' (first | exact .intro | ((first | refine B1 (fun h => ?_) fun h => ?_ | refine B2 fun y he he' hy => ?_ | refine B3 fun y he hy => ?_ | refine B4 fun y hy => ?_ | refine B5 fun ck => ?_ | fail) <;> refine Z ?_)))
          refine Some'.mk ((i + 1, c2.set i (x1, x2, IntKind.i64.wrap (x3 + 1))), v3) ?_
          (refine Z ?_; repeat' (first | exact .intro | ((first | refine B1 (fun h => ?_) fun h => ?_ | refine B2 fun y he he' hy => ?_ | refine B3 fun y he hy => ?_ | refine B4 fun y hy => ?_ | refine B5 fun ck => ?_ | fail) <;> refine Z ?_)))
          refine Ask.mk ⟨by show i + 1 ≤ c.length; omega, by show (c2.set i _).length = c.length; rw [List.length_set]; exact h2⟩ ?_
          exact G1
        · have ck : Hc irightU (k, (u, w), c, g, v) (Hc irightU (k, (u, w), c, g, v) (Hc iaboveC ((k, (u, w), c, g, v), (k', (u', w'), c', g', v')) (Hc iaboveC ((k, (u, w), c, g, v), (k', (u', w'), c', g', v')) (Hc isameC ((k, (u, w), c, g, v), (k', (u', w'), c', g', v')) (Hc isameC ((k, (u, w), c, g, v), (k', (u', w'), c', g', v')) (Hc icmpX (((k, (u, w), c, g, v), (k', (u', w'), c', g', v')), p)
            (Hc imarkX ((k, (u, w), c, g, v), F) (Hc imarkX ((k, (u, w), c, g, v), F) (Hc ihexX (f, H) (Hc rHexX (strOfNums (l16 f), H) True)))))))))) := ⟨⟨⟨⟨⟨⟨⟨⟨⟨⟨⟨trivial⟩⟩⟩⟩⟩⟩⟩⟩⟩⟩⟩
          have lm := And.intro ia (And.intro ib (And.intro d1 (And.intro hN (And.intro beqB (And.intro beqI (And.intro beqL Bool.true_and))))))
          exact G1
    | true =>
      have s3 : ricmpX.side ((a, b), p) := ⟨⟨⟨za, ia⟩, ⟨zb, ib⟩⟩, hp⟩
      clear hp
      obtain ⟨k, ⟨u, w⟩, c, g, v⟩ := a
      obtain ⟨k', ⟨u', w'⟩, c', g', v'⟩ := b
      dsimp only at g1 g2 g3
      have ck : Hc ver1C () (Hc greatX ([(k, (u, w), c, g, v), (k', (u', w'), c', g', v')], n) (Hc irightU (k, (u, w), c, g, v) (Hc irightU (k', (u', w'), c', g', v') (Hc ricmpX (((k, (u, w), c, g, v), (k', (u', w'), c', g', v')), p) (Hc icloneC (k, (u, w), c, g, v) (Hc isameC ((k, (u, w), c, g, v), (k, (u, w), c, g, v)) True)))))) := ⟨⟨⟨⟨⟨⟨⟨trivial⟩⟩⟩⟩⟩⟩⟩
      have lm := And.intro ia (And.intro ib (And.intro d1 hN))
      (refine Z ?_; repeat' (first | exact .intro | ((first | refine B1 (fun h => ?_) fun h => ?_ | refine B2 fun y he he' hy => ?_ | refine B3 fun y he hy => ?_ | refine B4 fun y hy => ?_ | refine B5 fun ck => ?_ | fail) <;> refine Z ?_)))
      refine Some'.mk (0, v) ?_
      (refine Z ?_; repeat' (first | exact .intro | ((first | refine B1 (fun h => ?_) fun h => ?_ | refine B2 fun y he he' hy => ?_ | refine B3 fun y he hy => ?_ | refine B4 fun y hy => ?_ | refine B5 fun ck => ?_ | fail) <;> refine Z ?_)))
      refine AllI.mk ?_
      rintro ⟨i, v2⟩ ⟨h1, h2⟩
      dsimp only at h1 h2
      rcases Nat.lt_or_ge i v.length with hlt | hge
      · obtain ⟨x, hx⟩ := get_ex (by rw [h2]; exact hlt : i < v2.length)
        (refine Zm ?_; repeat' (first | exact .intro | ((first | refine B1 (fun h => ?_) fun h => ?_ | refine B2 fun y he he' hy => ?_ | refine B3 fun y he hy => ?_ | refine B4 fun y hy => ?_ | refine B5 fun ck => ?_ | fail) <;> refine Zm ?_)))
        refine All'.mk ?_
        rintro (y : Int) hy
        obtain rfl : x = y := Option.some.inj (hx.symm.trans hy)
        clear hy
        (refine Zm ?_; repeat' (first | exact .intro | ((first | refine B1 (fun h => ?_) fun h => ?_ | refine B2 fun y he he' hy => ?_ | refine B3 fun y he hy => ?_ | refine B4 fun y hy => ?_ | refine B5 fun ck => ?_ | fail) <;> refine Zm ?_)))
        refine Ar.wrap ?_
        (refine Zm ?_; repeat' (first | exact .intro | ((first | refine B1 (fun h => ?_) fun h => ?_ | refine B2 fun y he he' hy => ?_ | refine B3 fun y he hy => ?_ | refine B4 fun y hy => ?_ | refine B5 fun ck => ?_ | fail) <;> refine Zm ?_)))
        refine All'.mk ?_
        rintro (y : Int) hy
        obtain rfl : x = y := Option.some.inj (hx.symm.trans hy)
        clear hy
        (refine Zm ?_; repeat' (first | exact .intro | ((first | refine B1 (fun h => ?_) fun h => ?_ | refine B2 fun y he he' hy => ?_ | refine B3 fun y he hy => ?_ | refine B4 fun y hy => ?_ | refine B5 fun ck => ?_ | fail) <;> refine Zm ?_)))
        refine Some'.mk (IntKind.u8.wrap (x + 1)) ?_
        refine Eqn.mk rfl ?_
        (refine Z ?_; repeat' (first | exact .intro | ((first | refine B1 (fun h => ?_) fun h => ?_ | refine B2 fun y he he' hy => ?_ | refine B3 fun y he hy => ?_ | refine B4 fun y hy => ?_ | refine B5 fun ck => ?_ | fail) <;> refine Z ?_)))
        refine Some'.mk (i + 1, v2.set i (IntKind.u8.wrap (x + 1))) ?_
        (refine Z ?_; repeat' (first | exact .intro | ((first | refine B1 (fun h => ?_) fun h => ?_ | refine B2 fun y he he' hy => ?_ | refine B3 fun y he hy => ?_ | refine B4 fun y hy => ?_ | refine B5 fun ck => ?_ | fail) <;> refine Z ?_)))
        refine Ask.mk ⟨by show i + 1 ≤ v.length; omega, by show (v2.set i _).length = v.length; rw [List.length_set]; exact h2⟩ ?_
        exact G1
      · (refine Z ?_; repeat' (first | exact .intro | ((first | refine B1 (fun h => ?_) fun h => ?_ | refine B2 fun y he he' hy => ?_ | refine B3 fun y he hy => ?_ | refine B4 fun y hy => ?_ | refine B5 fun ck => ?_ | fail) <;> refine Z ?_)))
        refine Some'.mk ((0, c), v2) ?_
        (refine Z ?_; repeat' (first | exact .intro | ((first | refine B1 (fun h => ?_) fun h => ?_ | refine B2 fun y he he' hy => ?_ | refine B3 fun y he hy => ?_ | refine B4 fun y hy => ?_ | refine B5 fun ck => ?_ | fail) <;> refine Z ?_)))
        clear h1 h2 hge
        refine AllI.mk ?_
        rintro ⟨⟨i, c2⟩, v3⟩ ⟨h1, h2⟩
        dsimp only at h1 h2
        rcases Nat.lt_or_ge i c.length with hlt | hge
        · obtain ⟨⟨x1, x2, x3⟩, hx⟩ := get_ex (by rw [h2]; exact hlt : i < c2.length)
          (refine Zm ?_; repeat' (first | exact .intro | ((first | refine B1 (fun h => ?_) fun h => ?_ | refine B2 fun y he he' hy => ?_ | refine B3 fun y he hy => ?_ | refine B4 fun y hy => ?_ | refine B5 fun ck => ?_ | fail) <;> refine Zm ?_)))
          refine All'.mk ?_
          rintro (y : Run) hy
          obtain rfl : (x1, x2, x3) = y := Option.some.inj (hx.symm.trans hy)
          clear hy
          (refine Zm ?_; repeat' (first | exact .intro | ((first | refine B1 (fun h => ?_) fun h => ?_ | refine B2 fun y he he' hy => ?_ | refine B3 fun y he hy => ?_ | refine B4 fun y hy => ?_ | refine B5 fun ck => ?_ | fail) <;> refine Zm ?_)))
          refine Ar.wrap ?_
          (refine Zm ?_; repeat' (first | exact .intro | ((first | refine B1 (fun h => ?_) fun h => ?_ | refine B2 fun y he he' hy => ?_ | refine B3 fun y he hy => ?_ | refine B4 fun y hy => ?_ | refine B5 fun ck => ?_ | fail) <;> refine Zm ?_)))
          refine All'.mk ?_
          rintro (y : Run) hy
          obtain rfl : (x1, x2, x3) = y := Option.some.inj (hx.symm.trans hy)
          clear hy
          (refine Zm ?_; repeat' (first | exact .intro | ((first | refine B1 (fun h => ?_) fun h => ?_ | refine B2 fun y he he' hy => ?_ | refine B3 fun y he hy => ?_ | refine B4 fun y hy => ?_ | refine B5 fun ck => ?_ | fail) <;> refine Zm ?_)))
          refine Some'.mk (x1, x2, IntKind.i64.wrap (x3 + 1)) ?_
          refine Eqn.mk rfl ?_
          (refine Z ?_; repeat' (first | exact .intro | ((first | refine B1 (fun h => ?_) fun h => ?_ | refine B2 fun y he he' hy => ?_ | refine B3 fun y he hy => ?_ | refine B4 fun y hy => ?_ | refine B5 fun ck => ?_ | fail) <;> refine Z ?_)))
          refine Some'.mk ((i + 1, c2.set i (x1, x2, IntKind.i64.wrap (x3 + 1))), v3) ?_
          (refine Z ?_; repeat' (first | exact .intro | ((first | refine B1 (fun h => ?_) fun h => ?_ | refine B2 fun y he he' hy => ?_ | refine B3 fun y he hy => ?_ | refine B4 fun y hy => ?_ | refine B5 fun ck => ?_ | fail) <;> refine Z ?_)))
          refine Ask.mk ⟨by show i + 1 ≤ c.length; omega, by show (c2.set i _).length = c.length; rw [List.length_set]; exact h2⟩ ?_
          exact G1
        · have ck : Hc irightU (k, (u, w), c, g, v) (Hc irightU (k, (u, w), c, g, v) (Hc iaboveC ((k, (u, w), c, g, v), (k', (u', w'), c', g', v')) (Hc iaboveC ((k, (u, w), c, g, v), (k', (u', w'), c', g', v')) (Hc isameC ((k, (u, w), c, g, v), (k', (u', w'), c', g', v')) (Hc isameC ((k, (u, w), c, g, v), (k', (u', w'), c', g', v')) (Hc icmpX (((k, (u, w), c, g, v), (k', (u', w'), c', g', v')), p)
            (Hc imarkX ((k, (u, w), c, g, v), F) (Hc imarkX ((k, (u, w), c, g, v), F) (Hc ihexX (f, H) (Hc rHexX (strOfNums (l16 f), H) True)))))))))) := ⟨⟨⟨⟨⟨⟨⟨⟨⟨⟨⟨trivial⟩⟩⟩⟩⟩⟩⟩⟩⟩⟩⟩
          have lm := And.intro ia (And.intro ib (And.intro d1 (And.intro hN (And.intro beqB (And.intro beqI (And.intro beqL Bool.true_and))))))
          exact G1
end Go.Proofs.YthmbdjhlfieldaaGreatDoor

set_option linter.unusedVariables false
set_option linter.unusedSimpArgs false
set_option maxRecDepth 100000
set_option maxHeartbeats 4000000
namespace Go.Proofs.YthmbdjhlfieldaaGreatDoor
open Go.Eng
theorem zeroI_Z : itemZ zeroI := ⟨⟨by show (0 : Nat) ≤ _; omega, by show (0 : Nat) ≤ _; omega, by show (0 : Nat) ≤ _; omega⟩, fun c hc => nomatch hc⟩
theorem right_Z {x : Item} (hi : itemB x = true) (hv : okY x.2.2.2.2) : itemZ x := by
  obtain ⟨k, ⟨m, n⟩, c, g, v⟩ := x
  obtain ⟨⟨k1, k2⟩, k3, k4, ⟨k5, k6⟩, ⟨k7, k8⟩, k9, k10⟩ := item_ok hi
  exact ⟨⟨by show k.size ≤ _; omega, by show c.length ≤ _; omega, by show v.length ≤ _; omega⟩, hv⟩
theorem getI_Z {x : EyX} (h : okE x) : itemZ (getI x).1 := by
  have e1 := (eyT_okE h (m := 24) (by omega)).1
  have e2 := (eyS_ok e1 7 (by omega)).1
  have e3 := (eyS_ok e2 1099511627776 (by omega)).1
  have e4 := getS_okE e3
  have e5 := (eyS_ok e4 1 (by omega)).1
  have e6 : okY (giV x).1 := by
    unfold giV
    split
    · exact fun c hc => nomatch hc
    · exact (eyT_okE e5 (m := 64) (by omega)).2.1
  unfold getI
  split
  · split
    · rename_i hi; exact right_Z hi e6
    · exact zeroI_Z
  · exact zeroI_Z
theorem readI_Z {l : List Int} (h : okE ⟨l, 0⟩) : itemZ (readI l).1 := by
  unfold readI
  split
  · exact getI_Z h
  · exact zeroI_Z
@[reducible] def iputX : Ctr := {
  X := IPutX × List Int
  Y := Unit
  args := fun x => [.ptr 0 0, itemA x.1.it]
  rw := fun x => penE 0 x.1.bs 1
  side := fun x => (itemL x.1.it ∧ x.1.bs.length ≤ 10000000000) ∧ x.1.bs ++ itemBs x.1.it = x.2
  val := fun _ => ()
  ens := fun _ _ => True
  res := fun x y => .v (.bool (itemB x.1.it))
  out := fun x _ => penE 0 x.2 1000 }
theorem iputX_ok : iputX.ok Tryz.prog 28 := ctr_re (C := iputC) (C' := iputX) (fun x => x.1) (fun x h => ⟨h.1, trivial, rfl, rfl, rfl, by show penE 0 x.2 1000 = penE 0 (x.1.bs ++ itemBs x.1.it) 1000; rw [h.2]⟩) iput_ok
@[reducible] def ribytesX : Ctr := {
  X := Item × List Int
  Y := Unit
  args := fun x => [itemV x.1]
  rw := fun _ => []
  side := fun x => itemB x.1 = true ∧ itemBy x.1 = x.2
  val := fun _ => ()
  ens := fun _ _ => True
  res := fun x _ => .v (.string (strOfNums x.2))
  out := fun x _ => [] }
theorem ribytesX_ok : ribytesX.ok Tryz.prog 29 := ctr_re (C := ribytesV) (C' := ribytesX) (fun x => x.1) (fun x h => ⟨h.1, trivial, rfl, rfl, by show SV.v (.string (strOfNums x.2)) = SV.v (.string (strOfNums (itemBy x.1))); rw [h.2], rfl⟩) ribytesV_ok
@[reducible] def vrdC : Ctr := {
  X := Item × List Int
  Y := Unit
  args := fun x => [itemA x.1, .ro false (.int .u8) x.2]
  rw := fun _ => []
  side := fun x => itemZ x.1 ∧ okY x.2 ∧ x.2.length ≤ 9223372036854775807
  val := fun _ => ()
  ens := fun _ _ => True
  res := fun _ _ => .v (.bool true)
  out := fun _ _ => [] }
theorem knownVy : Known Tryz.prog (gOf [(7, ver1C), (8, greatX), (28, iputX), (19, irightU), (29, ribytesX), (30, readC), (31, igetC), (32, rigetC), (15, ireadC), (33, rireadC),
    (34, penBytesC), (16, ibytesX), (13, isameC), (35, errC), (36, leftC)]) :=
  known_cons ⟨ver1_ok, Tryz.call7⟩ (known_cons ⟨greatX_ok, Tryz.call8⟩ (known_cons ⟨iputX_ok, Tryz.call28⟩ (known_cons ⟨iright_re riright_ok, Tryz.call19⟩ (known_cons ⟨ribytesX_ok, Tryz.call29⟩
    (known_cons ⟨read_ok, Tryz.call30⟩ (known_cons ⟨iget_ok, Tryz.call31⟩ (known_cons ⟨riget_ok, Tryz.call32⟩ (known_cons ⟨iread_ok, Tryz.call15⟩ (known_cons ⟨riread_ok, Tryz.call33⟩ (known_cons ⟨penBytes_ok, Tryz.call34⟩
      (known_cons ⟨ibytesX_ok, Tryz.call16⟩ (known_cons ⟨isame_ok, Tryz.call13⟩ (known_cons ⟨err_ok, Tryz.call35⟩ (known_cons ⟨left_ok, Tryz.call36⟩ (known_nil _)))))))))))))))
theorem vrd_ok : vrdC.ok Tryz.prog 6 := by
  refine ok_of_vc (An := fun _ => anOf []) knownVy mo Tryz.func6 (by kernel_rfl) (by kernel_rfl) (fun _ _ => trivial) (fun (x : Item × List Int) hs => ?_)
  obtain ⟨x, b⟩ := x
  obtain ⟨hz, hb, hl⟩ := hs
  have hz : itemZ x := hz
  have hb : okY b := hb
  have hl : b.length ≤ 9223372036854775807 := hl
  obtain ⟨n, hn⟩ : ∃ n, greatF 0 [x] = n := ⟨_, rfl⟩
  have s1 : greatX.side ([x], n) := ⟨⟨by show (1 : Nat) ≤ _; omega, fun i hi => by rcases List.mem_singleton.1 hi with rfl; exact hz.1⟩, hn⟩
  clear hn
  by_cases hsz : 1000 < b.length
  · obtain ⟨k, ⟨u, w⟩, c, g, v⟩ := x
    have ck : Hc ver1C () (Hc greatX ([(k, (u, w), c, g, v)], n) True) := ⟨⟨trivial⟩⟩
    exact G1
  · have hok : okE ⟨b, 0⟩ := ⟨hb, by show b.length ≤ 274877906944; omega⟩
    obtain ⟨it, z, hI⟩ : ∃ it z, getI ⟨b, 0⟩ = (it, z) := ⟨_, _, rfl⟩
    obtain ⟨r, e, hR⟩ : ∃ it z, readI b = (it, z) := ⟨_, _, rfl⟩
    have z1 : itemZ it := by have := getI_Z hok; rw [hI] at this; exact this
    have z2 : itemZ r := by have := readI_Z hok; rw [hR] at this; exact this
    have z3 := getI_okE hok
    rw [hI] at z3
    have z3 : z.l.length ≤ 274877906944 := z3.2
    obtain ⟨B, hB⟩ : ∃ B, itemBs x = B := ⟨_, rfl⟩
    have s2 : iputX.side (⟨[], x⟩, B) := ⟨⟨hz.1, by show (0 : Nat) ≤ _; omega⟩, by show [] ++ itemBs x = B; rw [List.nil_append, hB]⟩
    have s3 : irightU.side x := hz.1
    have s5 : readC.side b := hok.2
    have s6 : igetC.side ⟨⟨b, 0⟩, it, z⟩ := ⟨hok, hI⟩
    have s7 : rigetC.side ⟨⟨b, 0⟩, it, z⟩ := ⟨hok, hI⟩
    have s8 : ireadC.side ⟨b, r, e⟩ := ⟨hok, hR⟩
    have s9 : rireadC.side ⟨b, r, e⟩ := ⟨hok, hR⟩
    have s11 : ibytesX.side (x, B) := ⟨hz.1, hB⟩
    have s12 : isameC.side (it, it) := ⟨z1, z1⟩
    have s13 : isameC.side (r, r) := ⟨z2, z2⟩
    have s14 : leftC.side z := z3
    have d1 : decide (it = it) = true := decide_eq_true rfl
    have d2 : decide (r = r) = true := decide_eq_true rfl
    have d3 := str_size z.l
    have hBl : B.length ≤ 28000 := by
      rw [← hB]; unfold itemBs
      split
      · rename_i h
        obtain ⟨k, ⟨u, w⟩, c, g, v⟩ := x
        exact itemBy_le h
      · exact Nat.zero_le _
    have s10 : penBytesC.side B := by show B.length ≤ 274877906944; omega
    cases hi : itemB x with
    | false =>
      have hB0 : B = [] := by rw [← hB]; unfold itemBs; rw [hi]; rfl
      subst hB0
      have d4 : ((strOfNums []).toList == (⟨#[]⟩ : ByteArray).toList) = true := by rw [show strOfNums [] = (⟨#[]⟩ : ByteArray) from rfl]; exact beq_self_eq_true _
      clear hI hR hB hok
      obtain ⟨k, ⟨u, w⟩, c, g, v⟩ := x
      have ck : Hc ver1C () (Hc greatX ([(k, (u, w), c, g, v)], n) (Hc iputX (⟨[], (k, (u, w), c, g, v)⟩, []) (Hc irightU (k, (u, w), c, g, v) (Hc readC b (Hc igetC ⟨⟨b, 0⟩, it, z⟩ (Hc rigetC ⟨⟨b, 0⟩, it, z⟩ (Hc ireadC ⟨b, r, e⟩ (Hc rireadC ⟨b, r, e⟩
        (Hc irightU (k, (u, w), c, g, v) (Hc penBytesC [] (Hc ibytesX ((k, (u, w), c, g, v), []) (Hc isameC (it, it) (Hc errC z (Hc leftC z (Hc isameC (r, r) True))))))))))))))) := ⟨⟨⟨⟨⟨⟨⟨⟨⟨⟨⟨⟨⟨⟨⟨⟨trivial⟩⟩⟩⟩⟩⟩⟩⟩⟩⟩⟩⟩⟩⟩⟩⟩
      have lm := And.intro hi (And.intro d1 (And.intro d2 (And.intro d3 (And.intro d4 (And.intro beqB (And.intro beqI beqL))))))
      exact G1
    | true =>
      have hB1 : itemBy x = B := by rw [← hB]; unfold itemBs; rw [hi]; rfl
      have s4 : ribytesX.side (x, B) := ⟨hi, hB1⟩
      clear hI hR hB hok hB1
      obtain ⟨k, ⟨u, w⟩, c, g, v⟩ := x
      have ck : Hc ver1C () (Hc greatX ([(k, (u, w), c, g, v)], n) (Hc iputX (⟨[], (k, (u, w), c, g, v)⟩, B) (Hc irightU (k, (u, w), c, g, v) (Hc ribytesX ((k, (u, w), c, g, v), B) (Hc readC b (Hc igetC ⟨⟨b, 0⟩, it, z⟩ (Hc rigetC ⟨⟨b, 0⟩, it, z⟩ (Hc ireadC ⟨b, r, e⟩ (Hc rireadC ⟨b, r, e⟩
        (Hc irightU (k, (u, w), c, g, v) (Hc penBytesC B (Hc ibytesX ((k, (u, w), c, g, v), B) (Hc isameC (it, it) (Hc errC z (Hc leftC z (Hc isameC (r, r) True)))))))))))))))) := ⟨⟨⟨⟨⟨⟨⟨⟨⟨⟨⟨⟨⟨⟨⟨⟨⟨trivial⟩⟩⟩⟩⟩⟩⟩⟩⟩⟩⟩⟩⟩⟩⟩⟩⟩
      have lm := And.intro hi (And.intro d1 (And.intro d2 (And.intro d3 (And.intro beqB (And.intro beqI beqL)))))
      exact G1
end Go.Proofs.YthmbdjhlfieldaaGreatDoor

set_option linter.unusedVariables false
set_option linter.unusedSimpArgs false
namespace Go.Proofs.YthmbdjhlfieldaaGreatDoor
open Go.Eng
theorem okWide_arr {P : Program} {w : World} {r : Reach} {base : Nat} {t e : TypeId} {n : Nat} {v : Value} (ht : P.underlying t = some (.array n e)) (h : Value.okWide P w r base t v) : ∃ cs, v = .agg cs := by
  simp only [Value.okWide, ht] at h
  obtain ⟨cs, h1, _⟩ := h
  exact ⟨cs, h1⟩
theorem arg_arr {H : Type} {en : TypeId × Value → H} {P : Program} {W : World} {base : Nat} {sp : Nat → Bool} {held : Bool} {t e : TypeId} {m : Nat} {T : Ty} {v : Value} {d : DataW H} {ps : List MemPlace} {r : Reach} {b0 : Nat} (n : Nat) (hu : P.underlying t = some (.array m e)) (hval : Value.okWide P W r b0 t v) (ht : tyAt P n t T = true) (h : DataW.Trod en P W base sp held t v d ps) :
    ∃ x : T.den, okT T x ∧ Sat (startE W) W (.agg (enc T x)) v := by
  obtain ⟨_, rfl⟩ := okWide_arr hu hval
  exact arg_agg n ht h
theorem okY_T {l : List Int} (h : okT (.sl (.int .u8)) l) : okY l := fun c hc => by
  have h2 := h.2 c hc
  have h3 : IntKind.u8.min ≤ c ∧ c ≤ IntKind.u8.max := h2
  have e1 : IntKind.u8.min = 0 := rfl
  have e2 : IntKind.u8.max = 255 := rfl
  omega
theorem okZ_T {x : Item} (h : okT itemT x) : itemZ x := ⟨⟨h.1, h.2.2.1.1, h.2.2.2.2.1⟩, okY_T h.2.2.2.2⟩
theorem u8_rng (c : Int) (h : okT (.int .u8) c) : 0 ≤ c ∧ c < 256 := by
  have h3 : IntKind.u8.min ≤ c ∧ c ≤ IntKind.u8.max := h
  have e1 : IntKind.u8.min = 0 := rfl
  have e2 : IntKind.u8.max = 255 := rfl
  omega
abbrev markT : Ty := .arr 16 (.int .u8)
def markF (x : markT.den) (j : Nat) : Int := if h : j < 16 then x ⟨j, h⟩ else 0
theorem markF_rng {x : markT.den} (h : okT markT x) (j : Nat) : 0 ≤ markF x j ∧ markF x j < 256 := by
  unfold markF
  split
  · rename_i hj
    exact u8_rng (x ⟨j, hj⟩) (h ⟨j, hj⟩)
  · omega
theorem mark_enc (x : markT.den) : enc markT x = mk16 (markF x) := rfl
theorem vtl_enc {E : Env} {w : World} {x : markT.den} {v : Value} (h : Sat E w (.agg (enc markT x)) v) : Sat E w (.agg (mk16 (markF x))) v := by rw [← mark_enc]; exact h
end Go.Proofs.YthmbdjhlfieldaaGreatDoor

/-! The engine, part Y: what a row's list of package-level variables gives. -/
set_option linter.unusedVariables false
namespace Go.Eng
variable [DM]
set_option linter.unusedSectionVars false

theorem laid_mem {P : Program} {W : World} {name : String} {d : DataW Unit} : ∀ {l : List (String × DataW Unit)} {ps : List MemPlace}, DataW.LaidVars P W l ps → (name, d) ∈ l →
    ∃ g t cs fuel p, P.globalNamed name = some g ∧ (P.globals[g]?).map (·.type) = some t ∧ W.var? P name = some cs ∧ DataW.trod (fun _ => ()) P W 0 (fun _ => true) false fuel t cs.toList = some (d, p)
  | [], _, _, h => by cases h
  | (n, e) :: l, ps, hl, h => by
    obtain ⟨g, t, cs, fuel, p, q, h1, h2, h3, h4, h5, _⟩ := hl
    rcases List.mem_cons.1 h with heq | h
    · obtain ⟨rfl, rfl⟩ := Prod.mk.inj heq
      exact ⟨g, t, cs, fuel, p, h1, h2, h3, h4⟩
    · exact laid_mem h5 h

theorem var_block {P : Program} {W : World} {name : String} {g : Nat} {cs : Array Value} (hg : P.globalNamed name = some g) (h : W.var? P name = some cs) :
    g < W.heap.size ∧ ∃ t fz, W.heap[g]? = some (.cells cs t fz) := by
  unfold World.var? at h
  rw [hg] at h
  simp only [Option.bind_some] at h
  split at h
  · rename_i cs' t fz hh
    obtain rfl := Option.some.inj h
    exact ⟨(Array.getElem?_eq_some_iff.1 hh).1, t, fz, hh⟩
  · cases h

/-- A table of numbers on the list. -/
theorem laid_tab {P : Program} {W : World} {l : List (String × DataW Unit)} {name : String} {k : IntKind} {zs : List Int} {g : Nat} {t e : TypeId} {n : Nat} {d : DataW Unit}
    (hp : (l.filter fun x => x.2.handleName?.isSome) = []) (hd : d = Go.Lib.tabData k zs)
    (hm : (name, d) ∈ l) (hg : P.globalNamed name = some g) (hty : (P.globals[g]?).map (·.type) = some t) (ht : P.underlying t = some (.array n e)) (he : P.underlying e = some (.int k)) (hce : P.cellsOf e = 1) (hct : P.cellsOf t = n)
    (h : laidMetH P l W) : (startE W).I g ∧ ∃ (a : Array Value) (t : TypeId) (fz : Nat × Nat), W.heap[g]? = some (.cells a t fz) ∧ a = (zs.map fun z => Value.int k z).toArray := by
  have h : laidMet P l W := by
    unfold laidMetH at h
    rw [hp] at h
    exact h
  obtain ⟨ps, hl, _⟩ := h
  obtain ⟨g', t', cs, fuel, p, hg', ht', hv, htr⟩ := laid_mem hl hm
  subst hd
  obtain rfl := Option.some.inj (hg.symm.trans hg')
  obtain rfl := Option.some.inj (hty.symm.trans ht')
  obtain ⟨h1, t2, fz, h2⟩ := var_block hg hv
  exact ⟨h1, cs, t2, fz, h2, by rw [← Go.Lib.cells_of_tab ht he hce hct htr]⟩

/-- A variable of an interface's type on the list. -/
theorem laid_iface {P : Program} {W : World} {l : List (String × DataW Unit)} {name nm : String} {g : Nat} {t : TypeId} {ms : Array (String × TypeId)} {d : DataW Unit}
    (hp : (l.filter fun x => x.2.handleName?.isSome) = []) (hm : (name, .iface nm d) ∈ l) (hg : P.globalNamed name = some g) (hty : (P.globals[g]?).map (·.type) = some t) (ht : P.underlying t = some (.interface ms))
    (h : laidMetH P l W) : (startE W).I g ∧ ∃ (a : Array Value) (t : TypeId) (fz : Nat × Nat), W.heap[g]? = some (.cells a t fz) ∧ ∃ te pe, a = #[.iface te pe] := by
  have h : laidMet P l W := by
    unfold laidMetH at h
    rw [hp] at h
    exact h
  obtain ⟨ps, hl, _⟩ := h
  obtain ⟨g', t', cs, fuel, p, hg', ht', hv, htr⟩ := laid_mem hl hm
  obtain rfl := Option.some.inj (hg.symm.trans hg')
  obtain rfl := Option.some.inj (hty.symm.trans ht')
  obtain ⟨h1, t2, fz, h2⟩ := var_block hg hv
  refine ⟨h1, cs, t2, fz, h2, ?_⟩
  obtain ⟨lc⟩ := cs
  cases fuel with
  | zero => simp [DataW.trod] at htr
  | succ fuel =>
    unfold DataW.trod at htr
    simp only [ht] at htr
    split at htr
    all_goals first
      | (cases htr; done)
      | (exact ⟨_, _, rfl⟩)
      | simp_all

/-- A variable that is some integer. -/
theorem shaped_int {P : Program} {W : World} {g : Nat} {t : TypeId} {zero : Array Value} {k : IntKind} (h : W.ShapedOpen P) (hg : g < P.globals.size)
    (h0 : ((begin P (fun _ _ => 0) default).world.heap[g]?).bind Obj.row? = some (zero, t)) (hz : zero.size = 1) (hb : P.buildable t = true) (hc : P.cellTypes P.depth t = some [t]) (hu : P.underlying t = some (.int k)) :
    (startE W).I g ∧ ∃ (a : Array Value) (t : TypeId) (fz : Nat × Nat), W.heap[g]? = some (.cells a t fz) ∧ ∃ m, a = #[.int k m] := by
  obtain ⟨cs, hh, hs, hr⟩ := h.1 g zero t hg h0
  obtain ⟨ts, hts, _, hall⟩ := hr hb
  rw [hc] at hts
  cases hts
  have h1 : 0 < cs.size := by omega
  obtain ⟨u, hu', hok⟩ := hall 0 cs[0] (by simp [h1])
  have : u = t := by simpa using hu'.symm
  subst this
  refine ⟨(Array.getElem?_eq_some_iff.1 hh).1, cs, _, _, hh, ?_⟩
  unfold Cell.ok at hok
  rw [hu] at hok
  cases hv : cs[0] <;> rw [hv] at hok <;> simp at hok
  case int k' n =>
    refine ⟨n, Array.ext (by simp; omega) (fun i hi hi' => ?_)⟩
    obtain rfl : i = 0 := by simp at hi'; exact hi'
    rw [hv, hok.1]; rfl

/-- The row's frame, with a list of variables and the form of the world. -/
theorem handed_both {H : Type} {enc : TypeId × Value → H} {a : Assume} {C : Checked} {os : Os} {f : FuncId} {fn : Func} {s : ChangeSpec} {conds : List PathCond} {apart fresh handsOn again : Bool} {X : World → Array Value → Prop}
    (hX : ∀ (w w' : World) (args : Array Value), w.heap = w'.heap → X w args → X w' args)
    (own : ownKnob C.prog.godebug = none) (started : os.Started) (noInit : C.prog.inits.idxOf? f = none) (hfn : C.prog.funcs[f]? = some fn)
    (witness : ∃ (w : World) (tape : Tape) (i : Input), w.os = os ∧ (w.forCall tape i).Shaped C.prog ∧ i.vars = [] ∧ Input.okWide C.prog (w.forCall tape i) .any w.heap.size f i ∧
      ((s.pre enc C.prog fn conds apart (w.forCall tape i).memory i.args ∧ X (w.forCall tape i).memory i.args) ∧ sizedMet enc C.prog fn (OpenSpec.ofChange s) apart (w.forCall tape i).memory i.args) ∧ a.holds C.prog (lone (Frame.enter C.prog f i.args .normal) [] (w.forCall tape i)))
    (contract : ∀ (W : World) (base : Nat) (args : Array Value) (ds gs : List (DataW H)) (before : List MemPlace),
      (∀ (j : Nat) t v, fn.params[j]? = some t → args[j]? = some v → Value.okWide C.prog W .any base t v) →
      DataW.Whole enc C.prog fn.params.toList s.vars apart W args.toList ds gs before → X W args → W.ShapedOpen C.prog →
      Calls C.prog f args W fun e W' => ∃ v, e = .returned v ∧ s.post enc C.prog fn apart fresh handsOn again W args v W') :
    ReturnsInHanded a C os f .any (fun w args => (s.pre enc C.prog fn conds apart w args ∧ X w args) ∧ sizedMet enc C.prog fn (OpenSpec.ofChange s) apart w args) (s.post enc C.prog fn apart fresh handsOn again) := by
  refine returnsInHanded_of_calls own started noInit witness ?_
  intro w tape i _ hsh _ hok hpre _
  obtain ⟨_, _, _, fn', hfn', _, _, _, _, hval⟩ := hok
  have e : fn' = fn := Option.some.inj (hfn'.symm.trans hfn)
  subst e
  obtain ⟨⟨⟨ds, gs, before, hw, _⟩, hx⟩, _⟩ := hpre
  refine (contract (w.forCall tape i) w.heap.size i.args ds gs before hval (DataW.Whole.of_heap (w' := w.forCall tape i) (by rfl) hw) (hX _ _ _ (by rfl) hx) hsh).mono fun e W' ⟨v, he, hp⟩ => ?_
  subst he
  exact ChangeSpec.post_blind hp

end Go.Eng
