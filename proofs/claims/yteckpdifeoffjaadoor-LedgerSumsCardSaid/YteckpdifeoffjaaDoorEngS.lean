/- The engine, part S: the conditions asked of a text of code suffice. -/
import Derived.Test.YteckpdifeoffjaaDoorEngQ
set_option linter.unusedVariables false
namespace Go.Eng
section
variable {r : Option Nat} {P : Program} {G : Nat → Option Ctr} {An : List Nat → Nat → Option AN} {nt : Nat}

def opsB (nt : Nat) : List Oper → Bool
  | [] => true
  | o :: l => match o.dst with
    | some d => match Nat.blt d nt with | true => opsB nt l | false => false
    | none => opsB nt l
/-- Every target lies in the frame. -/
noncomputable def dstsB (nt : Nat) (c : Code) : Bool :=
  Code.rec (motive := fun _ => Bool) (skip := true) (region := fun _ ops _ => opsB nt ops.toList) (seq := fun _ _ a b => match a with | true => b | false => false)
    (cond := fun _ _ _ a b => match a with | true => b | false => false) (block := fun _ _ a => a) (loop := fun _ a => a)
    (rangeFunc := fun _ ps _ _ a b => match ltB nt ps.toList with | true => (match a with | true => b | false => false) | false => false) (exit := fun _ => true) (scope := fun _ a => a) (label := fun _ => true) (goto := fun _ => true) (ret := true) (refuse := fun _ => true) c

theorem opsB_spec : ∀ (l : List Oper), opsB nt l = true → ∀ (i : Nat) (o : Oper) (d : Nat), l[i]? = some o → o.dst = some d → d < nt
  | [], _, i, o, d, h, _ => by simp at h
  | o0 :: l, h, i, o, d, hi, hd => by
    have ht : opsB nt l = true ∧ ∀ d, o0.dst = some d → d < nt := by
      unfold opsB at h
      split at h
      · rename_i d0 h0
        split at h
        · rename_i hb
          exact ⟨h, fun d hd => by obtain rfl := Option.some.inj (h0.symm.trans hd); exact Nat.le_of_ble_eq_true hb⟩
        · cases h
      · rename_i h0; exact ⟨h, fun d hd => by rw [h0] at hd; cases hd⟩
    cases i with
    | zero => obtain rfl : o0 = o := by simpa using hi
              exact ht.2 d hd
    | succ i => exact opsB_spec l ht.1 i o d (by simpa using hi) hd

theorem both_true {a b : Bool} (h : (match a with | true => b | false => false) = true) : a = true ∧ b = true := by cases a <;> simp_all

section
variable {F : Fence} {n : Nat} {P : Program} {b : Frame} {a : Act} {k : List Item} {cs : List Frame} {w : World} {Q : Exit → Act → World → Prop}
theorem stepR_scope' {c : Code} : step P (lone (b.atR a (.code (.scope c) :: k)) cs w) = .next (lone (b.atR a (.code c :: .inScope c :: k)) cs w) :=
  step_lone_go (by simp [stepG, stepG.exec, Frame.atR])
theorem stepR_inScope' {c : Code} : step P (lone (b.atR a (.inScope c :: k)) cs w) = .next (lone (b.atR a k) cs w) :=
  step_lone_go (by simp [stepG, stepG.exec, Frame.atR])

theorem wpIn_scope' {c : Code} (h : c.wpIn F n P (fun e a w => match e with | .goto _ => False | e => Q e a w) a w) : (Code.scope c).wpIn F n P Q a w := by
  intro b k cs hro hb hr
  have h0 : (lone (b.atR a (.code (.scope c) :: k)) cs w).fenced P F := fenced_calm hb hr rfl
  obtain ⟨e, a₁, w₁, hq, harr⟩ := h b (.inScope c :: k) cs hro hb hr
  cases e with
  | normal => exact ⟨.normal, a₁, w₁, hq, .head h0 stepR_scope' (StepsIn.trans harr (.one (fenced_calm hb hr rfl) stepR_inScope'))⟩
  | exit id =>
    have hx : exitTo id (.inScope c :: k) = exitTo id k := by simp [exitTo]
    exact ⟨.exit id, a₁, w₁, hq, fun k' hk => .head h0 stepR_scope' (harr.1 k' (by rw [hx]; exact hk)),
      fun hr' hk => let ⟨k₁, h1, h2⟩ := harr.2 hr' (by rw [hx]; exact hk); ⟨k₁, h1, .head h0 stepR_scope' h2⟩⟩
  | goto l => exact hq.elim
  | ret => exact ⟨_, a₁, w₁, hq, .of_steps (.one h0 stepR_scope') harr⟩
  | panic ch => exact ⟨_, a₁, w₁, hq, .of_steps (.one h0 stepR_scope') harr⟩
  | outgrown => exact ⟨_, a₁, w₁, hq, .of_steps (.one h0 stepR_scope') harr⟩
end

/-- THE CONDITIONS SUFFICE. -/
theorem vc_ok (hG : Known P G) (hm : P.follows .mixedOrders = true) : ∀ (c : Code), dstsB nt c = true → VOk P G An nt c := by
  intro c
  induction c with
  | skip => intro _ ms r rg E0 fp0 w0 df hr cur nx T M K Q a w hnx h hh hQ; exact wpIn_skip (hQ _ _ _ _ _ _ hnx h hh)
  | region id ops dr =>
    intro hd ms r rg E0 fp0 w0 df hr cur nx T M K Q a w hnx h hh hQ
    obtain ⟨E, fp, hs, hfr, hf, hdf⟩ := hh
    refine reg_ok (K := K) hG hm h (fun i o d ho => opsB_spec ops.toList hd i o d (by simpa using ho)) hs hfr ?_
    intro T' M' E' fp' a' w' hk hs' hfr' hadv hsl hdf'
    exact hQ _ _ _ _ _ _ (by omega) hk ⟨E', fp', hs', hfr', hf.step hadv (fun id hid => hsl id (by omega)), hdf' ▸ hdf.step hadv⟩
  | seq x y ihx ihy =>
    intro hd ms r rg E0 fp0 w0 df hr cur nx T M K Q a w hnx h hh hQ
    obtain ⟨hd1, hd2⟩ := both_true hd
    refine wpIn_seq (ihx hd1 ms r rg E0 fp0 w0 df hr cur nx T M (seqK (fun K nx T M => vc P G An y ms rg cur nx T M K) K) _ a w hnx h hh ?_)
    intro e nx' T' M' a' w' hnx' hk hh'
    cases e with
    | normal => exact ihy hd2 ms r rg E0 fp0 w0 df hr cur nx' T' M' K Q a' w' hnx' hk hh' hQ
    | exit j => exact hQ _ _ _ _ _ _ hnx' hk hh'
    | ret => exact hQ _ _ _ _ _ _ hnx' hk hh'
    | goto l => exact hk.elim
    | panic ch => exact hk.elim
    | outgrown => exact hk.elim
  | cond c x y ihx ihy =>
    intro hd ms r rg E0 fp0 w0 df hr cur nx T M K Q a w hnx h hh hQ
    obtain ⟨hd1, hd2⟩ := both_true hd
    have h : condV T c (vc P G An x ms rg cur nx T M K) (vc P G An y ms rg cur nx T M K) := h
    unfold condV at h
    split at h
    · rename_i t ht
      have hh1 := hh
      obtain ⟨E, fp, hs, _⟩ := hh1
      have hc := ev_sat (E := E) (w := w) (l := [c]) (T := T) (a := a) (fun t _ => hs.tm t) (x := c) (by simp)
      rw [ht] at hc
      have hc' : a.eval c = .bool t := by generalize a.eval c = v at hc; cases hc; rfl
      exact wpIn_cond_split hc' (fun e => ihx hd1 ms r rg E0 fp0 w0 df hr cur nx T M K Q a w hnx (h.t e) hh hQ) (fun e => ihy hd2 ms r rg E0 fp0 w0 df hr cur nx T M K Q a w hnx (h.f e) hh hQ)
    · rename_i p hp
      have hh1 := hh
      obtain ⟨E, fp, hs, _⟩ := hh1
      have hc := ev_sat (E := E) (w := w) (l := [c]) (T := T) (a := a) (fun t _ => hs.tm t) (x := c) (by simp)
      rw [hp] at hc
      obtain ⟨t, ht, hc'⟩ : ∃ t, p t ∧ a.eval c = .bool t := by generalize a.eval c = v at hc; cases hc with | unkB _ b hb => exact ⟨b, hb, rfl⟩
      exact wpIn_cond_split hc' (fun e => ihx hd1 ms r rg E0 fp0 w0 df hr cur nx T M K Q a w hnx (h.t (e ▸ ht)) hh hQ) (fun e => ihy hd2 ms r rg E0 fp0 w0 df hr cur nx T M K Q a w hnx (h.f (e ▸ ht)) hh hQ)
    · exact h.elim
  | block id x ih =>
    intro hd ms r rg E0 fp0 w0 df hr cur nx T M K Q a w hnx h hh hQ
    refine wpIn_block (ih hd ms r rg E0 fp0 w0 df hr id nx T M (blkK id K) _ a w hnx h hh ?_)
    intro e nx' T' M' a' w' hnx' hk hh'
    cases e with
    | normal => exact hQ _ _ _ _ _ _ hnx' hk hh'
    | exit j =>
      simp only [Exit.inBlock]
      simp only [blkK] at hk
      split at hk
      · rename_i hb
        rw [if_pos (Nat.eq_of_beq_eq_true hb)]
        exact hQ _ _ _ _ _ _ hnx' hk hh'
      · rename_i hb
        rw [if_neg (fun e => by subst e; simp at hb)]
        exact hQ _ _ _ _ _ _ hnx' hk hh'
    | ret => exact hQ _ _ _ _ _ _ hnx' hk hh'
    | goto l => exact hk.elim
    | panic ch => exact hk.elim
    | outgrown => exact hk.elim
  | loop x ih =>
    intro hd ms r rg E0 fp0 w0 df hr cur nx T M K Q a w hnx h hh hQ
    have h : loopV An ms rg cur (fun ms nx T M K => vc P G An x ms rg cur nx T M K) T M K := h
    unfold loopV at h
    split at h
    · rename_i L hL
      obtain ⟨x0, h⟩ := h
      obtain ⟨⟨hp0, h⟩, hh0⟩ := matSt_ok h hh
      have h := h.h
      let I : Act → World → Prop := fun a w => ∃ y, L.pre y ∧ Here rg E0 fp0 w0 nt df 2000 (L.T y) (L.M y) a w
      let S : Act → World → Nat → Prop := fun a w n => ∃ y, L.mu y = n ∧ L.pre y ∧ Here rg E0 fp0 w0 nt df 2000 (L.T y) (L.M y) a w
      have hmin : ∀ a w, I a w → ∃ n, S a w n ∧ ∀ k, S a w k → n ≤ k := fun a w ⟨y, hy⟩ => by
        have key : ∀ n, S a w n → ∃ n, S a w n ∧ ∀ k, S a w k → n ≤ k := by
          intro n
          induction n using Nat.strongRecOn with
          | _ n ih =>
            intro hn
            by_cases he : ∃ k, k < n ∧ S a w k
            · obtain ⟨k, h1, h2⟩ := he; exact ih k h1 h2
            · exact ⟨n, hn, fun k hk => by
                rcases Nat.lt_or_ge k n with h1 | h1
                · exact absurd ⟨k, h1, hk⟩ he
                · exact h1⟩
        exact key (L.mu y) ⟨y, rfl, hy⟩
      let μ : Act → World → Nat := fun a w => open Classical in if h : I a w then Classical.choose (hmin a w h) else 0
      have hμ : ∀ a w (h : I a w), S a w (μ a w) ∧ ∀ k, S a w k → μ a w ≤ k := fun a w h => by
        have := Classical.choose_spec (hmin a w h)
        simp only [μ, dif_pos h]; exact this
      refine wpIn_loop I μ ⟨x0, hp0, hh0⟩ (fun a1 w1 hI => ?_)
      obtain ⟨⟨y, hy1, hy2, hy3⟩, _⟩ := hμ a1 w1 hI
      refine ih hd (L.mu y :: ms) r rg E0 fp0 w0 df hr cur 2000 (L.T y) (L.M y) _ _ a1 w1 (Nat.le_refl _) (h y hy2) hy3 ?_
      intro e nx' T' M' a' w' hnx' hk hh'
      cases e with
      | normal =>
        obtain ⟨y', hk⟩ := hk
        obtain ⟨⟨hp, hlt, _⟩, hh2⟩ := matSt_ok hk hh'
        have hI' : I a' w' := ⟨y', hp, hh2⟩
        refine ⟨hI', ?_⟩
        have := (hμ a' w' hI').2 (L.mu y') ⟨y', rfl, hp, hh2⟩
        omega
      | exit j => exact hQ _ _ _ _ _ _ hnx' hk hh'
      | ret => exact hQ _ _ _ _ _ _ hnx' hk hh'
      | goto l => exact hk.elim
      | panic ch => exact hk.elim
      | outgrown => exact hk.elim
    · exact h.elim
  | exit i => intro _ ms r rg E0 fp0 w0 df hr cur nx T M K Q a w hnx h hh hQ; exact wpIn_exit (hQ _ _ _ _ _ _ hnx h hh)
  | label l => intro _ ms r rg E0 fp0 w0 df hr cur nx T M K Q a w hnx h hh hQ; exact wpIn_label (hQ _ _ _ _ _ _ hnx h hh)
  | ret => intro _ ms r rg E0 fp0 w0 df hr cur nx T M K Q a w hnx h hh hQ; exact wpIn_ret (hQ _ _ _ _ _ _ hnx h hh)
  | rangeFunc g ps x y ihx ihy =>
    intro hd ms r rg E0 fp0 w0 df hr cur nx T M K Q a w hnx h hh hQ
    obtain ⟨hd0, hd12⟩ := both_true hd
    obtain ⟨hd1, hd2⟩ := both_true hd12
    exact range_ok hG (ihx hd1) (ihy hd2) (ltB_spec hd0) hr h hh (fun e nx' T' M' a' w' h1 => hQ e nx' T' M' a' w' h1)
  | scope x ih =>
    intro hd ms r rg E0 fp0 w0 df hr cur nx T M K Q a w hnx h hh hQ
    refine wpIn_scope' (ih hd ms r rg E0 fp0 w0 df hr cur nx T M (seqK (fun K nx T M => K .normal nx T M) K) _ a w hnx h hh ?_)
    intro e nx' T' M' a' w' hnx' hk hh'
    cases e with
    | normal => exact hQ _ _ _ _ _ _ hnx' hk hh'
    | exit j => exact hQ _ _ _ _ _ _ hnx' hk hh'
    | ret => exact hQ _ _ _ _ _ _ hnx' hk hh'
    | goto l => exact hk.elim
    | panic ch => exact hk.elim
    | outgrown => exact hk.elim
  | goto l => intro _ ms r rg E0 fp0 w0 df hr cur nx T M K Q a w hnx h hh hQ; exact h.elim
  | refuse y => intro _ ms r rg E0 fp0 w0 df hr cur nx T M K Q a w hnx h hh hQ; exact h.elim

end
end Go.Eng
