/- Parts of the proof, one behind the other (SipH, Lend, VerE, DotK, MisA, TxtF, TxtG, GetB, GetC, FstA, VerF, VerG, VerH, HexA, TexI, TexJ, VerI, VerJ, VerK, VerL, VerM, VerN, VerO). -/
import Derived.Test.YthmbdjhlfieldaaGreatDoorPk10
import Derived.Lib.BytesEntry
import Derived.Lib.Bytealg
set_option linter.unusedVariables false
set_option linter.unusedSimpArgs false
set_option linter.unusedSectionVars false
set_option linter.unusedVariables false
set_option linter.unusedSimpArgs false
set_option maxRecDepth 100000
set_option maxHeartbeats 4000000
namespace Go.Proofs.YthmbdjhlfieldaaGreatDoor
open Go.Eng
theorem eight_at : ∀ (n u k : Nat), k < n → (eightL n u)[k]? = some (((u / 256 ^ (n - 1 - k) % 256 : Nat) : Int))
  | 0, u, k, h => by omega
  | n + 1, u, k, h => by
    have hl := eightL_len n (u / 256)
    unfold eightL
    by_cases hk : k = n
    · subst hk
      rw [List.getElem?_append_right (by omega), hl, Nat.sub_self]
      simp
    · rw [List.getElem?_append_left (by omega), eight_at n (u / 256) k (by omega), Nat.div_div_eq_div_mul, show n + 1 - 1 - k = (n - 1 - k) + 1 by omega, Nat.pow_succ, Nat.mul_comm 256]
theorem eight_ok2 (n u : Nat) : okB (eightL n u) := fun c hc => by
  obtain ⟨k, hk⟩ := List.getElem?_of_mem hc
  have hlt := (List.getElem?_eq_some_iff.1 hk).1
  rw [eightL_len] at hlt
  rw [eight_at n u k hlt] at hk
  obtain rfl := Option.some.inj hk
  omega
def markE (l : List Int) : List Int := eightL 8 (hI l 1).toNat ++ eightL 8 (hI l 2).toNat
theorem markE_at (l : List Int) (j : Nat) (hj : j < 16) : byteAt (strOfNums (markE l)) j = markB l j := by
  refine byteAt_of (okB_app (eight_ok2 _ _) (eight_ok2 _ _)) ?_
  unfold markB
  by_cases h : j < 8
  · rw [List.getElem?_append_left (by rw [eightL_len]; exact h), eight_at 8 _ j h, show j / 8 + 1 = 1 by omega, show j % 8 = j by omega]; rfl
  · rw [List.getElem?_append_right (by rw [eightL_len]; omega), eightL_len, eight_at 8 _ (j - 8) (by omega), show j / 8 + 1 = 2 by omega, show j % 8 = j - 8 by omega]; rfl
@[reducible] def rhashU : Ctr := {
  X := List Int × Int
  Y := Unit
  args := fun x => [.agg [.v (.int .u64 x.2), .v (.int .u64 (18446744073709551615 - x.2))], .v (.string (strOfNums x.1))]
  rw := fun _ => []
  side := fun x => x.1.length ≤ 1000000000
  val := fun _ => ()
  ens := fun _ _ => True
  res := fun x _ => .v (.int .u64 (((hI x.1 x.2).toNat : Nat) : Int))
  out := fun _ _ => [] }
theorem rhashU_ok : rhashU.ok Tryz.prog 102 := ctr_re (C := hashC) (fun x => ⟨x.2, 18446744073709551615 - x.2, strOfNums x.1⟩) (fun x h => ⟨by show (strOfNums x.1).size ≤ _; rw [str_size]; exact Nat.le_trans h (by omega), trivial, rfl, rfl, by
  have := hash_rng ⟨x.2, 18446744073709551615 - x.2, strOfNums x.1⟩
  show SV.v (.int .u64 (((hashV ⟨x.2, 18446744073709551615 - x.2, strOfNums x.1⟩).toNat : Nat) : Int)) = SV.v (.int .u64 (hashV ⟨x.2, 18446744073709551615 - x.2, strOfNums x.1⟩))
  rw [Int.toNat_of_nonneg this.1], rfl⟩) hash_ok
@[reducible] def rmarkC : Ctr := {
  X := List Int
  Y := Unit
  args := fun l => [.v (.string (strOfNums l))]
  rw := fun _ => []
  side := fun l => l.length ≤ 1000000000
  val := fun _ => ()
  ens := fun _ _ => True
  res := fun l _ => .agg (mk16 (markB l))
  out := fun _ _ => [] }
@[reducible] def rmL0 (l : List Int) : LA := {
  X := Nat
  pre := fun i => i ≤ 16
  mu := fun i => 16 - i
  T := fun i => [(2, .ptr 3 0), (3, .ptr 2 0), (4, .v (.string (strOfNums (markE l)))), (5, .v (.int .i64 (i : Nat)))]
  M := fun i => [(2, .cells 44 (mk16 (upF l i))), (3, .cells 44 (mk16 (fun _ => 0)))] }
theorem knownRm : Known Tryz.prog (gOf [(103, seedC), (102, rhashU), (101, eightC)]) := known_cons ⟨seed_ok, Tryz.call103⟩ (known_cons ⟨rhashU_ok, Tryz.call102⟩ (known_cons ⟨eight_ok, Tryz.call101⟩ (known_nil _)))
theorem rmark_ok : rmarkC.ok Tryz.prog 67 := by
  refine ok_of_vc (An := fun (l : List Int) => anOf [(0, .loop (rmL0 l))]) knownRm mo Tryz.func67 (by kernel_rfl) (by kernel_rfl) (fun _ _ => trivial) (fun (l : List Int) hs => ?_)
  have hlen : l.length ≤ 1000000000 := hs
  have r1 : (hI l 1).toNat < 18446744073709551616 := by have := hash_rng ⟨1, 18446744073709551615 - 1, strOfNums l⟩; unfold hI; omega
  have r2 : (hI l 2).toNat < 18446744073709551616 := by have := hash_rng ⟨2, 18446744073709551615 - 2, strOfNums l⟩; unfold hI; omega
  have e1 := str_cat (eightL 8 (hI l 1).toNat) (eightL 8 (hI l 2).toNat)
  have z1 : (strOfNums (eightL 8 (hI l 1).toNat)).size = 8 := by rw [str_size, eightL_len]
  have z2 : (strOfNums (eightL 8 (hI l 2).toNat)).size = 8 := by rw [str_size, eightL_len]
  have z3 : (strOfNums (markE l)).size = 16 := by rw [str_size, markE, List.length_append, eightL_len, eightL_len]
  have lm := And.intro z1 (And.intro z2 z3)
  have ck : Hc seedC (1 : Int) (Hc rhashU (l, 1) (Hc eightC (hI l 1).toNat (Hc seedC (2 : Int) (Hc rhashU (l, 2) (Hc eightC (hI l 2).toNat True))))) := .mk (.mk (.mk (.mk (.mk (.mk trivial)))))
  (refine Z ?_; repeat' (first | exact .intro | ((first | refine B1 (fun h => ?_) fun h => ?_ | refine B2 fun y he he' hy => ?_ | refine B3 fun y he hy => ?_ | refine B4 fun y hy => ?_ | refine B5 fun ck => ?_ | fail) <;> refine Z ?_)))
  refine Some'.mk (0 : Nat) ?_
  (refine Z ?_; repeat' (first | exact .intro | ((first | refine B1 (fun h => ?_) fun h => ?_ | refine B2 fun y he he' hy => ?_ | refine B3 fun y he hy => ?_ | refine B4 fun y hy => ?_ | refine B5 fun ck => ?_ | fail) <;> refine Z ?_)))
  refine AllI.mk ?_
  rintro (i : Nat) i1
  have i1 : i ≤ 16 := i1
  clear r1 r2 e1 z1 z2
  by_cases hi : i = 16
  · subst hi
    exact G1
  · have hcase : i = 0 ∨ i = 1 ∨ i = 2 ∨ i = 3 ∨ i = 4 ∨ i = 5 ∨ i = 6 ∨ i = 7 ∨ i = 8 ∨ i = 9 ∨ i = 10 ∨ i = 11 ∨ i = 12 ∨ i = 13 ∨ i = 14 ∨ i = 15 := by omega
    clear i1 hi
    rcases hcase with rfl | rfl | rfl | rfl | rfl | rfl | rfl | rfl | rfl | rfl | rfl | rfl | rfl | rfl | rfl | rfl
    · have hk := markE_at l 0 (by omega)
      (refine Z ?_; repeat' (first | exact .intro | ((first | refine B1 (fun h => ?_) fun h => ?_ | refine B2 fun y he he' hy => ?_ | refine B3 fun y he hy => ?_ | refine B4 fun y hy => ?_ | refine B5 fun ck => ?_ | fail) <;> refine Z ?_)))
      refine Some'.mk (1 : Nat) ?_
      (refine Zn ?_; repeat' (first | exact .intro | ((first | refine B1 (fun h => ?_) fun h => ?_ | refine B2 fun y he he' hy => ?_ | refine B3 fun y he hy => ?_ | refine B4 fun y hy => ?_ | refine B5 fun ck => ?_ | fail) <;> refine Zn ?_)))
      refine AskL.mk ?_ ?_
      · dsimp only [conj]
        (repeat' apply And.intro) <;> first | rfl | exact hk
      exact G1
    · have hk := markE_at l 1 (by omega)
      (refine Z ?_; repeat' (first | exact .intro | ((first | refine B1 (fun h => ?_) fun h => ?_ | refine B2 fun y he he' hy => ?_ | refine B3 fun y he hy => ?_ | refine B4 fun y hy => ?_ | refine B5 fun ck => ?_ | fail) <;> refine Z ?_)))
      refine Some'.mk (2 : Nat) ?_
      (refine Zn ?_; repeat' (first | exact .intro | ((first | refine B1 (fun h => ?_) fun h => ?_ | refine B2 fun y he he' hy => ?_ | refine B3 fun y he hy => ?_ | refine B4 fun y hy => ?_ | refine B5 fun ck => ?_ | fail) <;> refine Zn ?_)))
      refine AskL.mk ?_ ?_
      · dsimp only [conj]
        (repeat' apply And.intro) <;> first | rfl | exact hk
      exact G1
    · have hk := markE_at l 2 (by omega)
      (refine Z ?_; repeat' (first | exact .intro | ((first | refine B1 (fun h => ?_) fun h => ?_ | refine B2 fun y he he' hy => ?_ | refine B3 fun y he hy => ?_ | refine B4 fun y hy => ?_ | refine B5 fun ck => ?_ | fail) <;> refine Z ?_)))
      refine Some'.mk (3 : Nat) ?_
      (refine Zn ?_; repeat' (first | exact .intro | ((first | refine B1 (fun h => ?_) fun h => ?_ | refine B2 fun y he he' hy => ?_ | refine B3 fun y he hy => ?_ | refine B4 fun y hy => ?_ | refine B5 fun ck => ?_ | fail) <;> refine Zn ?_)))
      refine AskL.mk ?_ ?_
      · dsimp only [conj]
        (repeat' apply And.intro) <;> first | rfl | exact hk
      exact G1
    · have hk := markE_at l 3 (by omega)
      (refine Z ?_; repeat' (first | exact .intro | ((first | refine B1 (fun h => ?_) fun h => ?_ | refine B2 fun y he he' hy => ?_ | refine B3 fun y he hy => ?_ | refine B4 fun y hy => ?_ | refine B5 fun ck => ?_ | fail) <;> refine Z ?_)))
      refine Some'.mk (4 : Nat) ?_
      (refine Zn ?_; repeat' (first | exact .intro | ((first | refine B1 (fun h => ?_) fun h => ?_ | refine B2 fun y he he' hy => ?_ | refine B3 fun y he hy => ?_ | refine B4 fun y hy => ?_ | refine B5 fun ck => ?_ | fail) <;> refine Zn ?_)))
      refine AskL.mk ?_ ?_
      · dsimp only [conj]
        (repeat' apply And.intro) <;> first | rfl | exact hk
      exact G1
    · have hk := markE_at l 4 (by omega)
      (refine Z ?_; repeat' (first | exact .intro | ((first | refine B1 (fun h => ?_) fun h => ?_ | refine B2 fun y he he' hy => ?_ | refine B3 fun y he hy => ?_ | refine B4 fun y hy => ?_ | refine B5 fun ck => ?_ | fail) <;> refine Z ?_)))
      refine Some'.mk (5 : Nat) ?_
      (refine Zn ?_; repeat' (first | exact .intro | ((first | refine B1 (fun h => ?_) fun h => ?_ | refine B2 fun y he he' hy => ?_ | refine B3 fun y he hy => ?_ | refine B4 fun y hy => ?_ | refine B5 fun ck => ?_ | fail) <;> refine Zn ?_)))
      refine AskL.mk ?_ ?_
      · dsimp only [conj]
        (repeat' apply And.intro) <;> first | rfl | exact hk
      exact G1
    · have hk := markE_at l 5 (by omega)
      (refine Z ?_; repeat' (first | exact .intro | ((first | refine B1 (fun h => ?_) fun h => ?_ | refine B2 fun y he he' hy => ?_ | refine B3 fun y he hy => ?_ | refine B4 fun y hy => ?_ | refine B5 fun ck => ?_ | fail) <;> refine Z ?_)))
      refine Some'.mk (6 : Nat) ?_
      (refine Zn ?_; repeat' (first | exact .intro | ((first | refine B1 (fun h => ?_) fun h => ?_ | refine B2 fun y he he' hy => ?_ | refine B3 fun y he hy => ?_ | refine B4 fun y hy => ?_ | refine B5 fun ck => ?_ | fail) <;> refine Zn ?_)))
      refine AskL.mk ?_ ?_
      · dsimp only [conj]
        (repeat' apply And.intro) <;> first | rfl | exact hk
      exact G1
    · have hk := markE_at l 6 (by omega)
      (refine Z ?_; repeat' (first | exact .intro | ((first | refine B1 (fun h => ?_) fun h => ?_ | refine B2 fun y he he' hy => ?_ | refine B3 fun y he hy => ?_ | refine B4 fun y hy => ?_ | refine B5 fun ck => ?_ | fail) <;> refine Z ?_)))
      refine Some'.mk (7 : Nat) ?_
      (refine Zn ?_; repeat' (first | exact .intro | ((first | refine B1 (fun h => ?_) fun h => ?_ | refine B2 fun y he he' hy => ?_ | refine B3 fun y he hy => ?_ | refine B4 fun y hy => ?_ | refine B5 fun ck => ?_ | fail) <;> refine Zn ?_)))
      refine AskL.mk ?_ ?_
      · dsimp only [conj]
        (repeat' apply And.intro) <;> first | rfl | exact hk
      exact G1
    · have hk := markE_at l 7 (by omega)
      (refine Z ?_; repeat' (first | exact .intro | ((first | refine B1 (fun h => ?_) fun h => ?_ | refine B2 fun y he he' hy => ?_ | refine B3 fun y he hy => ?_ | refine B4 fun y hy => ?_ | refine B5 fun ck => ?_ | fail) <;> refine Z ?_)))
      refine Some'.mk (8 : Nat) ?_
      (refine Zn ?_; repeat' (first | exact .intro | ((first | refine B1 (fun h => ?_) fun h => ?_ | refine B2 fun y he he' hy => ?_ | refine B3 fun y he hy => ?_ | refine B4 fun y hy => ?_ | refine B5 fun ck => ?_ | fail) <;> refine Zn ?_)))
      refine AskL.mk ?_ ?_
      · dsimp only [conj]
        (repeat' apply And.intro) <;> first | rfl | exact hk
      exact G1
    · have hk := markE_at l 8 (by omega)
      (refine Z ?_; repeat' (first | exact .intro | ((first | refine B1 (fun h => ?_) fun h => ?_ | refine B2 fun y he he' hy => ?_ | refine B3 fun y he hy => ?_ | refine B4 fun y hy => ?_ | refine B5 fun ck => ?_ | fail) <;> refine Z ?_)))
      refine Some'.mk (9 : Nat) ?_
      (refine Zn ?_; repeat' (first | exact .intro | ((first | refine B1 (fun h => ?_) fun h => ?_ | refine B2 fun y he he' hy => ?_ | refine B3 fun y he hy => ?_ | refine B4 fun y hy => ?_ | refine B5 fun ck => ?_ | fail) <;> refine Zn ?_)))
      refine AskL.mk ?_ ?_
      · dsimp only [conj]
        (repeat' apply And.intro) <;> first | rfl | exact hk
      exact G1
    · have hk := markE_at l 9 (by omega)
      (refine Z ?_; repeat' (first | exact .intro | ((first | refine B1 (fun h => ?_) fun h => ?_ | refine B2 fun y he he' hy => ?_ | refine B3 fun y he hy => ?_ | refine B4 fun y hy => ?_ | refine B5 fun ck => ?_ | fail) <;> refine Z ?_)))
      refine Some'.mk (10 : Nat) ?_
      (refine Zn ?_; repeat' (first | exact .intro | ((first | refine B1 (fun h => ?_) fun h => ?_ | refine B2 fun y he he' hy => ?_ | refine B3 fun y he hy => ?_ | refine B4 fun y hy => ?_ | refine B5 fun ck => ?_ | fail) <;> refine Zn ?_)))
      refine AskL.mk ?_ ?_
      · dsimp only [conj]
        (repeat' apply And.intro) <;> first | rfl | exact hk
      exact G1
    · have hk := markE_at l 10 (by omega)
      (refine Z ?_; repeat' (first | exact .intro | ((first | refine B1 (fun h => ?_) fun h => ?_ | refine B2 fun y he he' hy => ?_ | refine B3 fun y he hy => ?_ | refine B4 fun y hy => ?_ | refine B5 fun ck => ?_ | fail) <;> refine Z ?_)))
      refine Some'.mk (11 : Nat) ?_
      (refine Zn ?_; repeat' (first | exact .intro | ((first | refine B1 (fun h => ?_) fun h => ?_ | refine B2 fun y he he' hy => ?_ | refine B3 fun y he hy => ?_ | refine B4 fun y hy => ?_ | refine B5 fun ck => ?_ | fail) <;> refine Zn ?_)))
      refine AskL.mk ?_ ?_
      · dsimp only [conj]
        (repeat' apply And.intro) <;> first | rfl | exact hk
      exact G1
    · have hk := markE_at l 11 (by omega)
      (refine Z ?_; repeat' (first | exact .intro | ((first | refine B1 (fun h => ?_) fun h => ?_ | refine B2 fun y he he' hy => ?_ | refine B3 fun y he hy => ?_ | refine B4 fun y hy => ?_ | refine B5 fun ck => ?_ | fail) <;> refine Z ?_)))
      refine Some'.mk (12 : Nat) ?_
      (refine Zn ?_; repeat' (first | exact .intro | ((first | refine B1 (fun h => ?_) fun h => ?_ | refine B2 fun y he he' hy => ?_ | refine B3 fun y he hy => ?_ | refine B4 fun y hy => ?_ | refine B5 fun ck => ?_ | fail) <;> refine Zn ?_)))
      refine AskL.mk ?_ ?_
      · dsimp only [conj]
        (repeat' apply And.intro) <;> first | rfl | exact hk
      exact G1
    · have hk := markE_at l 12 (by omega)
      (refine Z ?_; repeat' (first | exact .intro | ((first | refine B1 (fun h => ?_) fun h => ?_ | refine B2 fun y he he' hy => ?_ | refine B3 fun y he hy => ?_ | refine B4 fun y hy => ?_ | refine B5 fun ck => ?_ | fail) <;> refine Z ?_)))
      refine Some'.mk (13 : Nat) ?_
      (refine Zn ?_; repeat' (first | exact .intro | ((first | refine B1 (fun h => ?_) fun h => ?_ | refine B2 fun y he he' hy => ?_ | refine B3 fun y he hy => ?_ | refine B4 fun y hy => ?_ | refine B5 fun ck => ?_ | fail) <;> refine Zn ?_)))
      refine AskL.mk ?_ ?_
      · dsimp only [conj]
        (repeat' apply And.intro) <;> first | rfl | exact hk
      exact G1
    · have hk := markE_at l 13 (by omega)
      (refine Z ?_; repeat' (first | exact .intro | ((first | refine B1 (fun h => ?_) fun h => ?_ | refine B2 fun y he he' hy => ?_ | refine B3 fun y he hy => ?_ | refine B4 fun y hy => ?_ | refine B5 fun ck => ?_ | fail) <;> refine Z ?_)))
      refine Some'.mk (14 : Nat) ?_
      (refine Zn ?_; repeat' (first | exact .intro | ((first | refine B1 (fun h => ?_) fun h => ?_ | refine B2 fun y he he' hy => ?_ | refine B3 fun y he hy => ?_ | refine B4 fun y hy => ?_ | refine B5 fun ck => ?_ | fail) <;> refine Zn ?_)))
      refine AskL.mk ?_ ?_
      · dsimp only [conj]
        (repeat' apply And.intro) <;> first | rfl | exact hk
      exact G1
    · have hk := markE_at l 14 (by omega)
      (refine Z ?_; repeat' (first | exact .intro | ((first | refine B1 (fun h => ?_) fun h => ?_ | refine B2 fun y he he' hy => ?_ | refine B3 fun y he hy => ?_ | refine B4 fun y hy => ?_ | refine B5 fun ck => ?_ | fail) <;> refine Z ?_)))
      refine Some'.mk (15 : Nat) ?_
      (refine Zn ?_; repeat' (first | exact .intro | ((first | refine B1 (fun h => ?_) fun h => ?_ | refine B2 fun y he he' hy => ?_ | refine B3 fun y he hy => ?_ | refine B4 fun y hy => ?_ | refine B5 fun ck => ?_ | fail) <;> refine Zn ?_)))
      refine AskL.mk ?_ ?_
      · dsimp only [conj]
        (repeat' apply And.intro) <;> first | rfl | exact hk
      exact G1
    · have hk := markE_at l 15 (by omega)
      (refine Z ?_; repeat' (first | exact .intro | ((first | refine B1 (fun h => ?_) fun h => ?_ | refine B2 fun y he he' hy => ?_ | refine B3 fun y he hy => ?_ | refine B4 fun y hy => ?_ | refine B5 fun ck => ?_ | fail) <;> refine Z ?_)))
      refine Some'.mk (16 : Nat) ?_
      (refine Zn ?_; repeat' (first | exact .intro | ((first | refine B1 (fun h => ?_) fun h => ?_ | refine B2 fun y he he' hy => ?_ | refine B3 fun y he hy => ?_ | refine B4 fun y hy => ?_ | refine B5 fun ck => ?_ | fail) <;> refine Zn ?_)))
      refine AskL.mk ?_ ?_
      · dsimp only [conj]
        (repeat' apply And.intro) <;> first | rfl | exact hk
      exact G1

def imkF (x : Item) (j : Nat) : Int := if itemB x then markB (itemBy x) j else 0
@[reducible] def imarkC : Ctr := {
  X := Item
  Y := Unit
  args := fun x => [itemA x]
  rw := fun _ => []
  side := fun x => itemL x ∧ okY x.2.2.2.2
  val := fun _ => ()
  ens := fun _ _ => True
  res := fun x _ => .agg (mk16 (imkF x))
  out := fun _ _ => [] }
theorem knownIm : Known Tryz.prog (gOf [(16, ibytesC), (66, smarkC)]) := known_cons ⟨ibytes_ok, Tryz.call16⟩ (known_cons ⟨smark_ok, Tryz.call66⟩ (known_nil _))
theorem itemBy_ne (x : Item) : 0 < (itemBy x).length := by
  unfold itemBy numL
  split <;> simp
theorem imark_ok : imarkC.ok Tryz.prog 24 := by
  refine ok_of_vc (An := fun _ => anOf []) knownIm mo Tryz.func24 (by kernel_rfl) (by kernel_rfl) (fun _ _ => trivial) (fun (x : Item) hs => ?_)
  have hbl := itemBs_le x
  have hbs : itemBs x = if itemB x = true then itemBy x else [] := rfl
  have hne := itemBy_ne x
  cases hi : itemB x with
  | false =>
    rw [hi] at hbs
    have hz : itemBs x = [] := hbs
    have hm : ∀ j, imkF x j = 0 := fun j => by unfold imkF; rw [hi]; rfl
    obtain ⟨key, ⟨m, n⟩, c, b, v⟩ := x
    obtain ⟨hs, hv⟩ := hs
    have hzl : (itemBs (key, (m, n), c, b, v)).length = 0 := by rw [hz]; rfl
    have ck : Hc ibytesC (key, (m, n), c, b, v) True := .mk trivial
    exact G1
  | true =>
    rw [hi, if_pos rfl] at hbs
    have hok := okB_by hi hs.2
    have hm : ∀ j, imkF x j = markB (itemBy x) j := fun j => by unfold imkF; rw [hi]; rfl
    obtain ⟨key, ⟨m, n⟩, c, b, v⟩ := x
    obtain ⟨hs, hv⟩ := hs
    have hzl : ¬ (itemBs (key, (m, n), c, b, v)).length = 0 := by rw [hbs]; omega
    have ck : Hc ibytesC (key, (m, n), c, b, v) (Hc smarkC (itemBs (key, (m, n), c, b, v)) True) := .mk (.mk trivial)
    (refine Z ?_; repeat' (first | exact .intro | ((first | refine B1 (fun h => ?_) fun h => ?_ | refine B2 fun y he he' hy => ?_ | refine B3 fun y he hy => ?_ | refine B4 fun y hy => ?_ | refine B5 fun ck => ?_ | fail) <;> refine Z ?_)))
    refine Ask.mk ⟨by rw [hbs]; exact hok, by show (itemBs (key, (m, n), c, b, v)).length ≤ 1000000000; omega⟩ ?_
    exact G1
end Go.Proofs.YthmbdjhlfieldaaGreatDoor

set_option linter.unusedVariables false
set_option linter.unusedSimpArgs false
set_option linter.unusedSectionVars false
namespace Go.Proofs.YthmbdjhlfieldaaGreatDoor
open Go.Eng
variable [DM]
/-- All that is lent is taken for what is only read. -/
def envIB (E : Env) : Env := { E with I := fun b => E.I b ∨ E.B b }
theorem le_envIB (E : Env) : E.le (envIB E) := ⟨fun _ _ h => h, fun _ h => .inl h, fun _ h => h⟩
theorem ro_lend {E : Env} {w : World} {t : Ty} {xs : List t.den} {v : Value} (h : Sat E w (.ro true t xs) v) : Sat (envIB E) w (.ro false t xs) v := by
  cases h with
  | nil _ _ A c => exact .nil _ _ A c
  | ro _ _ _ k o c u hb hle' hc hs => exact .ro false t xs k o c u (.inl (hb.imp id And.right)) hle' hc (fun i x j sv hi hj => (hs i x j sv hi hj).mono (le_envIB E) (fun _ _ _ => rfl))
/-- What a caller need not freeze. -/
inductive Lends : SV → SV → Prop where
  | ro (t : Ty) (xs : List t.den) : Lends (.ro true t xs) (.ro false t xs)
  | same (s : SV) : Lends s s
  | agg (l' l : List SV) (hl : l'.length = l.length) (h : ∀ (j : Nat) (s' s : SV), l'[j]? = some s' → l[j]? = some s → Lends s' s) : Lends (.agg l') (.agg l)
theorem Lends.sat {s' s : SV} (h : Lends s' s) {E : Env} {w : World} : ∀ {v : Value}, Sat E w s' v → Sat (envIB E) w s v := by
  induction h with
  | ro t xs => intro v hs; exact ro_lend hs
  | same s => intro v hs; exact hs.mono (le_envIB E) (fun _ _ _ => rfl)
  | agg l' l hl h ih =>
    intro v hv
    cases hv with
    | agg _ vs u h1 h2 h3 =>
      refine .agg l vs u (h1.trans hl) (fun j hj => h2 j (by omega)) (fun j sv hj => ?_)
      have hlt := (List.getElem?_eq_some_iff.1 hj).1
      have e := List.getElem?_eq_getElem (l := l') (i := j) (by omega)
      exact ih j _ sv e hj (h3 j _ e)
inductive LendL : List SV → List SV → Prop where
  | nil : LendL [] []
  | cons {s' s : SV} {l' l : List SV} (h : Lends s' s) (k : LendL l' l) : LendL (s' :: l') (s :: l)
theorem LendL.len {l' l : List SV} (h : LendL l' l) : l'.length = l.length := by
  induction h with
  | nil => rfl
  | cons _ _ ih => simp [ih]
theorem LendL.at {l' l : List SV} (h : LendL l' l) : ∀ (j : Nat) (s' s : SV), l'[j]? = some s' → l[j]? = some s → Lends s' s := by
  induction h with
  | nil => intro j s' s h; simp at h
  | cons h _ ih =>
    intro j s' s h1 h2
    cases j with
    | zero =>
      obtain rfl := Option.some.inj h1
      obtain rfl := Option.some.inj h2
      exact h
    | succ j => exact ih j s' s h1 h2
theorem Lends.aggL {l' l : List SV} (h : LendL l' l) : Lends (.agg l') (.agg l) := .agg l' l h.len h.at
theorem LendL.all {l' l : List SV} (h : LendL l' l) : l'.length = l.length ∧ ∀ (j : Nat) (s' : SV), l'[j]? = some s' → ∃ s, l[j]? = some s ∧ Lends s' s :=
  ⟨h.len, fun j s' hj => by
    have hlt := (List.getElem?_eq_some_iff.1 hj).1
    have e := List.getElem?_eq_getElem (l := l) (i := j) (by rw [← h.len]; exact hlt)
    exact ⟨_, e, h.at j s' _ hj e⟩⟩
/-- Results that lean on nothing. -/
inductive Plain1 : SV → Prop where
  | v (x : Value) : Plain1 (.v x)
  | sl (i : Nat) : Plain1 (.sl i)
  | agg (l : List SV) (h : ∀ (j : Nat) (s : SV), l[j]? = some s → ∃ u, s = .v u) : Plain1 (.agg l)
theorem ctr_lend {P : Program} {f : FuncId} {C : Ctr} {args' : C.X → List SV} (hrw : ∀ x, C.rw x = [])
    (hout : ∀ x, ∀ id, find (C.out x (C.val x)) id = .gone ∨ ∃ te t xs, find (C.out x (C.val x)) id = .row te t xs ∧ ∀ (y : t.den) (j : Nat) (sv : SV), (enc t y)[j]? = some sv → ∃ u, sv = .v u)
    (hres : ∀ x, Plain1 (C.res x (C.val x)))
    (hargs : ∀ x, (args' x).length = (C.args x).length ∧ ∀ (j : Nat) (s' : SV), (args' x)[j]? = some s' → ∃ s, (C.args x)[j]? = some s ∧ Lends s' s)
    (h : C.ok P f) : ({ C with args := args' } : Ctr).ok P f := by
  intro x hs
  obtain ⟨he, H⟩ := h x hs
  refine ⟨he, fun E fp vals w h1 h2 h3 h4 => ?_⟩
  have h3 : EntsSat E w fp (C.rw x) := h3
  rw [hrw x] at h3
  have hfp : ∀ id b, ¬ fp id b := fun id b hf => h3.sat id b hf
  have hE3 : EntsSat (envIB E) w fp (C.rw x) := by
    rw [hrw x]
    exact ⟨fun id => fun b hb => hfp id b hb, fun id b hb => (hfp id b hb).elim, fun id b hb => (hfp id b hb).elim, fun id b hb => (hfp id b hb).elim, fun i j b _ hb => (hfp i b hb).elim,
      fun b hb => h3.Ilt b (by rcases hb with (hb | hb) | hb; exact .inl hb; exact .inr hb; exact .inr hb), h3.nil.mono (le_envIB E), h3.gl.mono (fun b hb => .inl hb) (fun _ _ => rfl)⟩
  refine CallsIn.mono (H (envIB E) fp vals w (h1.trans (hargs x).1) (fun j s hj => ?_) hE3 h4) ?_
  · have hj' : j < (args' x).length := by rw [(hargs x).1]; exact (List.getElem?_eq_some_iff.1 hj).1
    obtain ⟨s2, e2, l2⟩ := (hargs x).2 j _ (List.getElem?_eq_getElem hj')
    obtain rfl : s2 = s := Option.some.inj (e2.symm.trans hj)
    exact l2.sat (h2 j _ (List.getElem?_eq_getElem hj'))
  · rintro e w' ⟨v, E', fp', rfl, hv, hents, hadv, hn⟩
    let E2 : Env := { E' with I := fun b => E.I b ∨ (E'.I b ∧ w.heap.size ≤ b) }
    have hIE : ∀ b, E2.I b → E'.I b := fun b hb => hb.elim (fun h => hadv.le.I b (.inl h)) And.left
    refine ⟨v, E2, fp', rfl, ?_, ⟨fun id => ?_, hents.lt, fun id b hb hI => hents.I id b hb (hIE b hI), hents.B, hents.apart, fun b hb => hents.Ilt b (hb.imp (hIE b) id), hents.nil, ?_⟩,
      ⟨hadv.keep, ⟨hadv.le.slot, fun b hb => .inl hb, hadv.le.B⟩, fun b hb => hb.imp id (fun h => .inr h.2), hadv.Beq, hadv.onew⟩, hn⟩
    · have hp := hres x
      generalize C.res x (C.val x) = r at hv hp
      cases hp with
      | v y => cases hv; exact .v _
      | sl i => cases hv with | sl _ s hs => exact .sl i s hs
      | agg l h =>
        cases hv with
        | agg _ vs u h1 h2 h3 =>
          refine .agg l vs u h1 h2 (fun j sv hj => ?_)
          obtain ⟨y, rfl⟩ := h j sv hj
          have := h3 j _ hj
          cases this
          exact .v _
    · have hsat := hents.sat id
      show EntSat E2 w' (fp' id) id (find (C.out x (C.val x)) id)
      rcases hout x id with hg | ⟨te, t, xs, hr, hpl⟩
      · rw [hg] at hsat ⊢; exact hsat
      · rw [hr] at hsat ⊢
        obtain ⟨s, k1, k2⟩ := hsat
        refine ⟨s, k1, ?_⟩
        rcases k2 with k2 | ⟨o, c, arr, fz, g1, g2, g3, g4, g5, g6, g7⟩
        · exact .inl k2
        · refine .inr ⟨o, c, arr, fz, g1, g2, g3, g4, g5, g6, fun i y j sv hi hj => ?_⟩
          obtain ⟨u, hu, hsu⟩ := g7 i y j sv hi hj
          obtain ⟨q, rfl⟩ := hpl y j sv hj
          cases hsu
          exact ⟨_, hu, .v _⟩
    · exact h3.gl.mono (fun b hb => .inl hb) (fun b hb => (h3.stays hadv.keep) b (.inl hb) (h3.Ilt b (.inl hb)))
end Go.Proofs.YthmbdjhlfieldaaGreatDoor

set_option linter.unusedVariables false
set_option linter.unusedSimpArgs false
set_option maxRecDepth 100000
set_option maxHeartbeats 4000000
namespace Go.Proofs.YthmbdjhlfieldaaGreatDoor
open Go.Eng
theorem lend_item (x : Item) : Lends (itemV x) (itemA x) := .aggL (.cons (.same _) (.cons (.same _) (.cons (.same _) (.cons (.ro _ _) (.cons (.same _) (.cons (.ro _ _) .nil))))))
@[reducible] def irightV : Ctr := { irightC with args := fun x => [itemV x] }
@[reducible] def irightU : Ctr := { irightC with args := fun x => [itemV x], Y := Unit, val := fun _ => (), ens := fun _ _ => True, res := fun x _ => .v (.bool (itemB x)), out := fun _ _ => [] }
theorem iright_re {f : FuncId} (h : irightC.ok Tryz.prog f) : irightU.ok Tryz.prog f :=
  ctr_re (C := irightV) (fun x => x) (fun x h => ⟨h, trivial, rfl, rfl, rfl, rfl⟩) (ctr_lend (C := irightC) (fun _ => rfl) (fun x id => .inl rfl) (fun _ => .v _) (fun x => (LendL.cons (lend_item x) .nil).all) h)
theorem byte_find (n : Nat) (te : TypeId) (xs : List Int) (id : Nat) : find [(n, .row te (.int .u8) xs)] id = .gone ∨ ∃ te' t ys, find [(n, .row te (.int .u8) xs)] id = .row te' t ys ∧ ∀ (y : t.den) (j : Nat) (sv : SV), (enc t y)[j]? = some sv → ∃ u, sv = .v u := by
  by_cases h : n = id
  · subst h
    exact .inr ⟨te, .int .u8, xs, by simp [find], fun y j sv h => by
      match j, h with
      | 0, h => exact ⟨_, (Option.some.inj h).symm⟩⟩
  · left
    have hb : Nat.beq n id = false := by rw [← Bool.not_eq_true, Nat.beq_eq]; exact h
    simp [find, hb]
@[reducible] def ibytesV : Ctr := { ibytesC with args := fun x => [itemV x] }
theorem ibytesV_ok : ibytesV.ok Tryz.prog 16 := ctr_lend (C := ibytesC) (fun _ => rfl) (fun x id => byte_find 1000 _ _ id) (fun _ => .sl _) (fun x => (LendL.cons (lend_item x) .nil).all) ibytes_ok
@[reducible] def ribytesV : Ctr := { ribytesC with args := fun x => [itemV x] }
theorem ribytesV_ok : ribytesV.ok Tryz.prog 29 := ctr_lend (C := ribytesC) (fun _ => rfl) (fun x id => .inl rfl) (fun _ => .v _) (fun x => (LendL.cons (lend_item x) .nil).all) ribytes_ok
theorem plain_mk (f : Nat → Int) : Plain1 (.agg (mk16 f)) := .agg _ (fun j s h => by
  match j, h with
  | 0, h => exact ⟨_, (Option.some.inj h).symm⟩
  | 1, h => exact ⟨_, (Option.some.inj h).symm⟩
  | 2, h => exact ⟨_, (Option.some.inj h).symm⟩
  | 3, h => exact ⟨_, (Option.some.inj h).symm⟩
  | 4, h => exact ⟨_, (Option.some.inj h).symm⟩
  | 5, h => exact ⟨_, (Option.some.inj h).symm⟩
  | 6, h => exact ⟨_, (Option.some.inj h).symm⟩
  | 7, h => exact ⟨_, (Option.some.inj h).symm⟩
  | 8, h => exact ⟨_, (Option.some.inj h).symm⟩
  | 9, h => exact ⟨_, (Option.some.inj h).symm⟩
  | 10, h => exact ⟨_, (Option.some.inj h).symm⟩
  | 11, h => exact ⟨_, (Option.some.inj h).symm⟩
  | 12, h => exact ⟨_, (Option.some.inj h).symm⟩
  | 13, h => exact ⟨_, (Option.some.inj h).symm⟩
  | 14, h => exact ⟨_, (Option.some.inj h).symm⟩
  | 15, h => exact ⟨_, (Option.some.inj h).symm⟩)
@[reducible] def imarkV : Ctr := { imarkC with args := fun x => [itemV x] }
theorem imarkV_ok : imarkV.ok Tryz.prog 24 := ctr_lend (C := imarkC) (fun _ => rfl) (fun x id => .inl rfl) (fun x => plain_mk _) (fun x => (LendL.cons (lend_item x) .nil).all) imark_ok
theorem knownRim : Known Tryz.prog (gOf [(19, irightU), (29, ribytesV), (67, rmarkC)]) :=
  known_cons ⟨iright_re riright_ok, Tryz.call19⟩ (known_cons ⟨ribytesV_ok, Tryz.call29⟩ (known_cons ⟨rmark_ok, Tryz.call67⟩ (known_nil _)))
theorem rimark_ok : imarkV.ok Tryz.prog 25 := by
  refine ok_of_vc (An := fun _ => anOf []) knownRim mo Tryz.func25 (by kernel_rfl) (by kernel_rfl) (fun _ _ => trivial) (fun (x : Item) hs => ?_)
  cases hi : itemB x with
  | false =>
    have hm : ∀ j, imkF x j = 0 := fun j => by unfold imkF; rw [hi]; rfl
    obtain ⟨key, ⟨m, n⟩, c, b, v⟩ := x
    obtain ⟨hs, hv⟩ := hs
    have lm := hi
    have ck : Hc irightU (key, (m, n), c, b, v) True := .mk trivial
    exact G1
  | true =>
    have hm : ∀ j, imkF x j = markB (itemBy x) j := fun j => by unfold imkF; rw [hi]; rfl
    obtain ⟨key, ⟨m, n⟩, c, b, v⟩ := x
    obtain ⟨hs, hv⟩ := hs
    have hbl := itemBy_le hi
    have lm := hi
    have ck : Hc irightU (key, (m, n), c, b, v) (Hc ribytesV (key, (m, n), c, b, v) (Hc rmarkC (itemBy (key, (m, n), c, b, v)) True)) := .mk (.mk (.mk trivial))
    exact G1

def aboveI (a b : Item) : Bool := decide (a.1 = b.1) && (itemB a && (itemB b && hasB a.2.2.1 b.2.1))
@[reducible] def iaboveC : Ctr := {
  X := Item × Item
  Y := Unit
  args := fun x => [itemV x.1, itemV x.2]
  rw := fun _ => []
  side := fun x => itemZ x.1 ∧ itemZ x.2
  val := fun _ => ()
  ens := fun _ _ => True
  res := fun x _ => .v (.bool (aboveI x.1 x.2))
  out := fun _ _ => [] }
theorem knownAb : Known Tryz.prog (gOf [(14, irightU), (54, dhasC), (19, irightU), (64, dhasC)]) :=
  known_cons ⟨iright_re iright_ok, Tryz.call14⟩ (known_cons ⟨dhas_ok, Tryz.call54⟩ (known_cons ⟨iright_re riright_ok, Tryz.call19⟩ (known_cons ⟨rdhas_ok, Tryz.call64⟩ (known_nil _))))
theorem above_eq (a b : Item) : aboveI a b = (decide (a.1 = b.1) && (itemB a && (itemB b && hasB a.2.2.1 b.2.1))) := rfl
theorem iabove_ok : iaboveC.ok Tryz.prog 17 := by
  refine ok_of_vc (An := fun _ => anOf []) knownAb mo Tryz.func17 (by kernel_rfl) (by kernel_rfl) (fun _ _ => trivial) (fun (x : Item × Item) hs => ?_)
  obtain ⟨a, b⟩ := x
  have hA := above_eq a b
  have hk := str_beq a.1 b.1
  have hla : itemB a = true → a.2.2.1.length ≤ 274877906944 := fun h => by
    obtain ⟨k, ⟨m, n⟩, c, g, v⟩ := a
    have := (item_ok h).hl
    exact Nat.le_trans this (by omega)
  obtain ⟨⟨h1, h2⟩, ⟨h3, h4⟩⟩ := hs
  by_cases e1 : a.1 = b.1
  · rw [decide_eq_true e1] at hk hA
    rw [Bool.true_and] at hA
    cases e2 : itemB a with
    | false =>
      rw [e2, Bool.false_and] at hA
      obtain ⟨k, ⟨m, n⟩, c, g, v⟩ := a
      obtain ⟨k', ⟨m', n'⟩, c', g', v'⟩ := b
      have lm := And.intro hk e2
      have ck : Hc irightU (k, (m, n), c, g, v) True := .mk trivial
      exact G1
    | true =>
      rw [e2, Bool.true_and] at hA
      have hla := hla e2
      cases e3 : itemB b with
      | false =>
        rw [e3, Bool.false_and] at hA
        obtain ⟨k, ⟨m, n⟩, c, g, v⟩ := a
        obtain ⟨k', ⟨m', n'⟩, c', g', v'⟩ := b
        have lm := And.intro hk (And.intro e2 e3)
        have ck : Hc irightU (k, (m, n), c, g, v) (Hc irightU (k', (m', n'), c', g', v') True) := .mk (.mk trivial)
        exact G1
      | true =>
        rw [e3, Bool.true_and] at hA
        obtain ⟨k, ⟨m, n⟩, c, g, v⟩ := a
        obtain ⟨k', ⟨m', n'⟩, c', g', v'⟩ := b
        have hla : c.length ≤ 274877906944 := hla
        have lm := And.intro hk (And.intro e2 e3)
        have ck : Hc irightU (k, (m, n), c, g, v) (Hc irightU (k', (m', n'), c', g', v') (Hc dhasC (c, (m', n')) True)) := .mk (.mk (.mk trivial))
        exact G1
  · rw [decide_eq_false e1] at hk hA
    rw [Bool.false_and] at hA
    obtain ⟨k, ⟨m, n⟩, c, g, v⟩ := a
    obtain ⟨k', ⟨m', n'⟩, c', g', v'⟩ := b
    have lm := hk
    exact G1
end Go.Proofs.YthmbdjhlfieldaaGreatDoor

set_option linter.unusedVariables false
set_option linter.unusedSimpArgs false
set_option linter.unusedSectionVars false
namespace Go.Proofs.YthmbdjhlfieldaaGreatDoor
open Go.Eng
variable [DM]
end Go.Proofs.YthmbdjhlfieldaaGreatDoor

set_option linter.unusedVariables false
set_option linter.unusedSimpArgs false
set_option maxRecDepth 100000
set_option maxHeartbeats 4000000
namespace Go.Proofs.YthmbdjhlfieldaaGreatDoor
open Go.Eng
def aboveF (a b : List Run) : Bool := decide (cmpF a b = 0) || decide (cmpF a b = 1)
end Go.Proofs.YthmbdjhlfieldaaGreatDoor

set_option linter.unusedVariables false
set_option linter.unusedSimpArgs false
set_option maxRecDepth 100000
namespace Go.Proofs.YthmbdjhlfieldaaGreatDoor
open Go.Eng
end Go.Proofs.YthmbdjhlfieldaaGreatDoor

set_option linter.unusedVariables false
set_option linter.unusedSimpArgs false
set_option maxRecDepth 100000
set_option maxHeartbeats 4000000
namespace Go.Proofs.YthmbdjhlfieldaaGreatDoor
open Go.Eng
end Go.Proofs.YthmbdjhlfieldaaGreatDoor

set_option linter.unusedVariables false
set_option linter.unusedSimpArgs false
set_option maxRecDepth 100000
set_option maxHeartbeats 4000000
namespace Go.Proofs.YthmbdjhlfieldaaGreatDoor
open Go.Eng
@[reducible] def dgetC : Ctr := {
  X := EyX
  Y := Unit
  args := fun x => [.ptr 0 0]
  rw := fun x => eyeE 0 x.l x.e
  side := fun x => okE x
  val := fun _ => ()
  ens := fun _ _ => True
  res := fun _ _ => .sl 1000
  out := fun x _ => (1000, .row 47 runT (getS x).1) :: eyeE 0 (getS x).2.l (getS x).2.e }
@[reducible] def dgetL (x : EyX) : LA := {
  X := Nat
  pre := fun i => i ≤ getN x
  mu := fun i => getN x - i
  T := fun i => [(0, .ptr 0 0), (3, .sl 2), (6, .v (.int .u64 (getN x : Nat))), (7, .v (.int .u64 (i : Nat)))]
  M := fun i => (2, .row 47 runT (rdN (eyS x 1024).2 i).1) :: eyeE 0 (rdN (eyS x 1024).2 i).2.l (rdN (eyS x 1024).2 i).2.e }
theorem knownGet1 : Known Tryz.prog (gOf [(75, eyNumC), (35, errC), (77, failC), (51, drightC)]) :=
  known_cons ⟨eyNum_ok, Tryz.call75⟩ (known_cons ⟨err_ok, Tryz.call35⟩ (known_cons ⟨fail_ok, Tryz.call77⟩ (known_cons ⟨dright_ok, Tryz.call51⟩ (known_nil _))))
theorem dget_ok : dgetC.ok Tryz.prog 76 := by
  refine ok_of_vc (An := fun x => anOf [(0, .loop (dgetL x))]) knownGet1 mo Tryz.func76 (by kernel_rfl) (by kernel_rfl) (fun _ _ => trivial) (fun (x : EyX) hs => ?_)
  have hs : okE x := hs
  obtain ⟨hx1, hn0, hn1⟩ := eyS_ok hs 1024 (by omega)
  have hN : (eyS x 1024).1 = ((getN x : Nat) : Int) := by unfold getN; omega
  have hso : okY x.l ∧ x.l.length ≤ 274877906944 := hs
  have hNl : getN x ≤ 1024 := by omega
  have ck : Hc eyNumC (x, 1024) True := .mk trivial
  (refine Z ?_; repeat' (first | exact .intro | ((first | refine B1 (fun h => ?_) fun h => ?_ | refine B2 fun y he he' hy => ?_ | refine B3 fun y he hy => ?_ | refine B4 fun y hy => ?_ | refine B5 fun ck => ?_ | fail) <;> refine Z ?_)))
  refine Some'.mk (0 : Nat) ?_
  (refine Zn ?_; repeat' (first | exact .intro | ((first | refine B1 (fun h => ?_) fun h => ?_ | refine B2 fun y he he' hy => ?_ | refine B3 fun y he hy => ?_ | refine B4 fun y hy => ?_ | refine B5 fun ck => ?_ | fail) <;> refine Zn ?_)))
  refine AskL.mk ?_ (Ask.mk (Nat.zero_le _) ?_)
  · (dsimp only [conj]; repeat' apply And.intro) <;> first | rfl | exact hN
  refine AllI.mk ?_
  rintro (i : Nat) hi
  have hi : i ≤ getN x := hi
  have hxi := rdN_ok hx1 i
  by_cases hie : i = getN x
  · subst hie
    have hzl : (rdN (eyS x 1024).2 (getN x)).1.length = getN x := rdN_len _ _
    have hz2 : (rdN (eyS x 1024).2 (getN x)).1.length ≤ 274877906944 := by omega
    by_cases h3 : (rdN (eyS x 1024).2 (getN x)).2.e = 0
    · cases hr : rightB (rdN (eyS x 1024).2 (getN x)).1 with
      | true =>
        have hg : getS x = (rdN (eyS x 1024).2 (getN x)) := by unfold getS getP; rw [if_pos h3, if_pos hr]
        have lm := And.intro hg (And.intro hr h3)
        have ck : Hc errC (rdN (eyS x 1024).2 (getN x)).2 (Hc drightC (rdN (eyS x 1024).2 (getN x)).1 (Hc errC (rdN (eyS x 1024).2 (getN x)).2 True)) := .mk (.mk (.mk trivial))
        exact G1
      | false =>
        have hg : getS x = ([], ⟨[], 11⟩) := by unfold getS getP; rw [if_pos h3, if_neg (by rw [hr]; decide)]
        have k2 : failL (rdN (eyS x 1024).2 (getN x)).2 11 = [] := if_pos ⟨h3, by decide⟩
        have k3 : failE (rdN (eyS x 1024).2 (getN x)).2 11 = 11 := if_pos ⟨h3, by decide⟩
        have lm := And.intro hg (And.intro hr (And.intro h3 (And.intro k2 k3)))
        have ck : Hc errC (rdN (eyS x 1024).2 (getN x)).2 (Hc drightC (rdN (eyS x 1024).2 (getN x)).1 (Hc failC ((rdN (eyS x 1024).2 (getN x)).2, 11) (Hc errC ⟨[], 11⟩ True))) := .mk (.mk (.mk (.mk trivial)))
        exact G1
    · have hg : getS x = ([], (rdN (eyS x 1024).2 (getN x)).2) := getS_err (Nat.le_refl _) h3
      have lm := hg
      have ck : Hc errC (rdN (eyS x 1024).2 (getN x)).2 (Hc errC (rdN (eyS x 1024).2 (getN x)).2 True) := .mk (.mk trivial)
      exact G1
  · obtain ⟨ha1, ha2, ha3⟩ := eyS_ok hxi 7 (by omega)
    obtain ⟨hb1, hb2, hb3⟩ := eyS_ok ha1 1099511627776 (by omega)
    obtain ⟨hc1, hc2, hc3⟩ := eyS_ok hb1 1099511627776 (by omega)
    have hs1 : okY (rdN (eyS x 1024).2 i).2.l ∧ (rdN (eyS x 1024).2 i).2.l.length ≤ 274877906944 := hxi
    have hs2 : okY (eyS (rdN (eyS x 1024).2 i).2 7).2.l ∧ (eyS (rdN (eyS x 1024).2 i).2 7).2.l.length ≤ 274877906944 := ha1
    have hs3 : okY (eyS (eyS (rdN (eyS x 1024).2 i).2 7).2 1099511627776).2.l ∧ (eyS (eyS (rdN (eyS x 1024).2 i).2 7).2 1099511627776).2.l.length ≤ 274877906944 := hb1
    have hw1 : IntKind.i64.wrap (eyS (rdN (eyS x 1024).2 i).2 7).1 = (eyS (rdN (eyS x 1024).2 i).2 7).1 := wrap_i64 (by omega) (by omega)
    have hw2 : IntKind.i64.wrap (eyS (eyS (rdN (eyS x 1024).2 i).2 7).2 1099511627776).1 = (eyS (eyS (rdN (eyS x 1024).2 i).2 7).2 1099511627776).1 := wrap_i64 (by omega) (by omega)
    have hw3 : IntKind.i64.wrap (eyS (eyS (eyS (rdN (eyS x 1024).2 i).2 7).2 1099511627776).2 1099511627776).1 = (eyS (eyS (eyS (rdN (eyS x 1024).2 i).2 7).2 1099511627776).2 1099511627776).1 := wrap_i64 (by omega) (by omega)
    have hzl : (rdN (eyS x 1024).2 i).1.length = i := rdN_len _ _
    have hz2 : (rdN (eyS x 1024).2 i).1.length ≤ 1024 := by omega
    have lm := And.intro hw1 (And.intro hw2 hw3)
    have ck : Hc eyNumC ((rdN (eyS x 1024).2 i).2, 7) (Hc eyNumC ((eyS (rdN (eyS x 1024).2 i).2 7).2, 1099511627776) True) := .mk (.mk trivial)
    (refine Z ?_; repeat' (first | exact .intro | ((first | refine B1 (fun h => ?_) fun h => ?_ | refine B2 fun y he he' hy => ?_ | refine B3 fun y he hy => ?_ | refine B4 fun y hy => ?_ | refine B5 fun ck => ?_ | fail) <;> refine Z ?_)))
    refine CallP.mk (C := eyNumC) ((eyS (eyS (rdN (eyS x 1024).2 i).2 7).2 1099511627776).2, 1099511627776) ?_
    have hap : ∀ r : Run, (rdN (eyS x 1024).2 i).1.length + [r].length ≤ 274877906944 := fun r => by rw [List.length_singleton]; omega
    have hpr : (dgetL x).pre (i + 1) := by show i + 1 ≤ getN x; omega
    have hmu : (dgetL x).mu (i + 1) < (dgetL x).mu i := by show getN x - (i + 1) < getN x - i; omega
    by_cases h4 : (eyS (eyS (eyS (rdN (eyS x 1024).2 i).2 7).2 1099511627776).2 1099511627776).2.e = 0
    · have hst : (rdN (eyS x 1024).2 (i + 1)).1 = (rdN (eyS x 1024).2 i).1 ++ [(IntKind.i64.wrap (eyS (rdN (eyS x 1024).2 i).2 7).1, IntKind.i64.wrap (eyS (eyS (rdN (eyS x 1024).2 i).2 7).2 1099511627776).1, IntKind.i64.wrap (eyS (eyS (rdN (eyS x 1024).2 i).2 7).2 1099511627776).1 + IntKind.i64.wrap (eyS (eyS (eyS (rdN (eyS x 1024).2 i).2 7).2 1099511627776).2 1099511627776).1)] := by
        rw [hw1, hw2, hw3]; rfl
      have ck : Hc errC (eyS (eyS (eyS (rdN (eyS x 1024).2 i).2 7).2 1099511627776).2 1099511627776).2 True := .mk trivial
      (refine Z ?_; repeat' (first | exact .intro | ((first | refine B1 (fun h => ?_) fun h => ?_ | refine B2 fun y he he' hy => ?_ | refine B3 fun y he hy => ?_ | refine B4 fun y hy => ?_ | refine B5 fun ck => ?_ | fail) <;> refine Z ?_)))
      refine Some'.mk (i + 1 : Nat) ?_
      (refine Zn ?_; repeat' (first | exact .intro | ((first | refine B1 (fun h => ?_) fun h => ?_ | refine B2 fun y he he' hy => ?_ | refine B3 fun y he hy => ?_ | refine B4 fun y hy => ?_ | refine B5 fun ck => ?_ | fail) <;> refine Zn ?_)))
      refine AskL.mk ?_ (Ask.mk hpr (Ask.mk hmu trivial))
      (dsimp only [conj]; repeat' apply And.intro) <;> first | rfl | exact congrArg (SV.ro true runT) hst.symm
    · have hg : getS x = ([], (eyS (eyS (eyS (rdN (eyS x 1024).2 i).2 7).2 1099511627776).2 1099511627776).2) := getS_err (i := i + 1) (by omega) h4
      have lm := And.intro hg (And.intro hw1 (And.intro hw2 hw3))
      have ck : Hc errC (eyS (eyS (eyS (rdN (eyS x 1024).2 i).2 7).2 1099511627776).2 1099511627776).2 True := .mk trivial
      exact G1
end Go.Proofs.YthmbdjhlfieldaaGreatDoor

set_option linter.unusedVariables false
set_option linter.unusedSimpArgs false
set_option maxRecDepth 100000
set_option maxHeartbeats 4000000
namespace Go.Proofs.YthmbdjhlfieldaaGreatDoor
open Go.Eng
@[reducible] def rgetC : Ctr := {
  X := EyX
  Y := Unit
  args := fun x => [.ptr 0 0]
  rw := fun x => reyeE 0 x.l x.e
  side := fun x => okE x
  val := fun _ => ()
  ens := fun _ _ => True
  res := fun _ _ => .sl 1000
  out := fun x _ => (1000, .row 47 runT (getS x).1) :: reyeE 0 (getS x).2.l (getS x).2.e }
@[reducible] def rgetL (x : EyX) : LA := {
  X := Nat
  pre := fun i => i ≤ getN x
  mu := fun i => getN x - i
  T := fun i => [(0, .ptr 0 0), (3, .v (.int .i64 (getN x : Nat))), (4, .sl 2), (5, .v (.int .i64 (i : Nat)))]
  M := fun i => (2, .row 47 runT (rdN (eyS x 1024).2 i).1) :: reyeE 0 (rdN (eyS x 1024).2 i).2.l (rdN (eyS x 1024).2 i).2.e }
theorem knownGet2 : Known Tryz.prog (gOf [(79, reyNumC), (81, rfailC), (60, drightC)]) :=
  known_cons ⟨reyNum_ok, Tryz.call79⟩ (known_cons ⟨rfail_ok, Tryz.call81⟩ (known_cons ⟨rdright_ok, Tryz.call60⟩ (known_nil _)))
theorem rget_ok : rgetC.ok Tryz.prog 80 := by
  refine ok_of_vc (An := fun x => anOf [(0, .loop (rgetL x))]) knownGet2 mo Tryz.func80 (by kernel_rfl) (by kernel_rfl) (fun _ _ => trivial) (fun (x : EyX) hs => ?_)
  have hs : okE x := hs
  obtain ⟨hx1, hn0, hn1⟩ := eyS_ok hs 1024 (by omega)
  have hN : IntKind.i64.wrap (eyS x 1024).1 = ((getN x : Nat) : Int) := by rw [wrap_i64 (by omega) (by omega)]; unfold getN; omega
  have hso : okY x.l ∧ x.l.length ≤ 274877906944 := hs
  have hNl : getN x ≤ 1024 := by unfold getN; omega
  have ck : Hc reyNumC (x, 1024) True := .mk trivial
  (refine Z ?_; repeat' (first | exact .intro | ((first | refine B1 (fun h => ?_) fun h => ?_ | refine B2 fun y he he' hy => ?_ | refine B3 fun y he hy => ?_ | refine B4 fun y hy => ?_ | refine B5 fun ck => ?_ | fail) <;> refine Z ?_)))
  refine Some'.mk (0 : Nat) ?_
  (refine Zn ?_; repeat' (first | exact .intro | ((first | refine B1 (fun h => ?_) fun h => ?_ | refine B2 fun y he he' hy => ?_ | refine B3 fun y he hy => ?_ | refine B4 fun y hy => ?_ | refine B5 fun ck => ?_ | fail) <;> refine Zn ?_)))
  refine AskL.mk ?_ (Ask.mk (Nat.zero_le _) ?_)
  · (dsimp only [conj]; repeat' apply And.intro) <;> first | rfl | exact hN
  refine AllI.mk ?_
  rintro (i : Nat) hi
  have hi : i ≤ getN x := hi
  have hxi := rdN_ok hx1 i
  by_cases h3 : (rdN (eyS x 1024).2 i).2.e = 0
  · by_cases hie : i = getN x
    · subst hie
      have hzl : (rdN (eyS x 1024).2 (getN x)).1.length = getN x := rdN_len _ _
      have hz2 : (rdN (eyS x 1024).2 (getN x)).1.length ≤ 274877906944 := by omega
      cases hr : rightB (rdN (eyS x 1024).2 (getN x)).1 with
      | true =>
        have hg : getS x = (rdN (eyS x 1024).2 (getN x)) := by unfold getS getP; rw [if_pos h3, if_pos hr]
        have lm := And.intro hg (And.intro hr h3)
        have ck : Hc drightC (rdN (eyS x 1024).2 (getN x)).1 True := .mk trivial
        exact G1
      | false =>
        have hg : getS x = ([], ⟨[], 11⟩) := by unfold getS getP; rw [if_pos h3, if_neg (by rw [hr]; decide)]
        have k2 : failL (rdN (eyS x 1024).2 (getN x)).2 11 = [] := if_pos ⟨h3, by decide⟩
        have k3 : failE (rdN (eyS x 1024).2 (getN x)).2 11 = 11 := if_pos ⟨h3, by decide⟩
        have lm := And.intro hg (And.intro hr (And.intro h3 (And.intro k2 k3)))
        have ck : Hc drightC (rdN (eyS x 1024).2 (getN x)).1 (Hc rfailC ((rdN (eyS x 1024).2 (getN x)).2, 11) True) := .mk (.mk trivial)
        exact G1
    · obtain ⟨ha1, ha2, ha3⟩ := eyS_ok hxi 7 (by omega)
      obtain ⟨hb1, hb2, hb3⟩ := eyS_ok ha1 1099511627776 (by omega)
      obtain ⟨hc1, hc2, hc3⟩ := eyS_ok hb1 1099511627776 (by omega)
      have hs1 : okY (rdN (eyS x 1024).2 i).2.l ∧ (rdN (eyS x 1024).2 i).2.l.length ≤ 274877906944 := hxi
      have hs2 : okY (eyS (rdN (eyS x 1024).2 i).2 7).2.l ∧ (eyS (rdN (eyS x 1024).2 i).2 7).2.l.length ≤ 274877906944 := ha1
      have hs3 : okY (eyS (eyS (rdN (eyS x 1024).2 i).2 7).2 1099511627776).2.l ∧ (eyS (eyS (rdN (eyS x 1024).2 i).2 7).2 1099511627776).2.l.length ≤ 274877906944 := hb1
      have hw1 : IntKind.i64.wrap (eyS (rdN (eyS x 1024).2 i).2 7).1 = (eyS (rdN (eyS x 1024).2 i).2 7).1 := wrap_i64 (by omega) (by omega)
      have hw2 : IntKind.i64.wrap (eyS (eyS (rdN (eyS x 1024).2 i).2 7).2 1099511627776).1 = (eyS (eyS (rdN (eyS x 1024).2 i).2 7).2 1099511627776).1 := wrap_i64 (by omega) (by omega)
      have hw3 : IntKind.i64.wrap (eyS (eyS (eyS (rdN (eyS x 1024).2 i).2 7).2 1099511627776).2 1099511627776).1 = (eyS (eyS (eyS (rdN (eyS x 1024).2 i).2 7).2 1099511627776).2 1099511627776).1 := wrap_i64 (by omega) (by omega)
      have hzl : (rdN (eyS x 1024).2 i).1.length = i := rdN_len _ _
      have hz2 : (rdN (eyS x 1024).2 i).1.length ≤ 1024 := by omega
      have hpr : (rgetL x).pre (i + 1) := by show i + 1 ≤ getN x; omega
      have hmu : (rgetL x).mu (i + 1) < (rgetL x).mu i := by show getN x - (i + 1) < getN x - i; omega
      have hst : (rdN (eyS x 1024).2 (i + 1)).1 = (rdN (eyS x 1024).2 i).1 ++ [(IntKind.i64.wrap (eyS (rdN (eyS x 1024).2 i).2 7).1, IntKind.i64.wrap (eyS (eyS (rdN (eyS x 1024).2 i).2 7).2 1099511627776).1, IntKind.i64.wrap (eyS (eyS (rdN (eyS x 1024).2 i).2 7).2 1099511627776).1 + IntKind.i64.wrap (eyS (eyS (eyS (rdN (eyS x 1024).2 i).2 7).2 1099511627776).2 1099511627776).1)] := by
        rw [hw1, hw2, hw3]; rfl
      have lm := And.intro hw1 (And.intro hw2 hw3)
      have ck : Hc reyNumC ((rdN (eyS x 1024).2 i).2, 7) (Hc reyNumC ((eyS (rdN (eyS x 1024).2 i).2 7).2, 1099511627776) (Hc reyNumC ((eyS (eyS (rdN (eyS x 1024).2 i).2 7).2 1099511627776).2, 1099511627776) True)) := .mk (.mk (.mk trivial))
      (refine Z ?_; repeat' (first | exact .intro | ((first | refine B1 (fun h => ?_) fun h => ?_ | refine B2 fun y he he' hy => ?_ | refine B3 fun y he hy => ?_ | refine B4 fun y hy => ?_ | refine B5 fun ck => ?_ | fail) <;> refine Z ?_)))
      refine Some'.mk (i + 1 : Nat) ?_
      (refine Zn ?_; repeat' (first | exact .intro | ((first | refine B1 (fun h => ?_) fun h => ?_ | refine B2 fun y he he' hy => ?_ | refine B3 fun y he hy => ?_ | refine B4 fun y hy => ?_ | refine B5 fun ck => ?_ | fail) <;> refine Zn ?_)))
      refine AskL.mk ?_ (Ask.mk hpr (Ask.mk hmu trivial))
      (dsimp only [conj]; repeat' apply And.intro) <;> first | rfl | exact congrArg (SV.ro true runT) hst.symm
  · have hg : getS x = ([], (rdN (eyS x 1024).2 i).2) := getS_err hi h3
    have lm := hg
    exact G1
end Go.Proofs.YthmbdjhlfieldaaGreatDoor

set_option linter.unusedVariables false
set_option linter.unusedSimpArgs false
set_option maxRecDepth 100000
set_option maxHeartbeats 4000000
namespace Go.Proofs.YthmbdjhlfieldaaGreatDoor
open Go.Eng
theorem text_mem58 {c : List Run} (h : rightB c = true) (h0 : c ≠ []) : (58 : Int) ∈ textL c := by
  have ht : textL c = spc (c.map runW) := by unfold textL; rw [h, if_neg h0]; rfl
  cases c with
  | nil => exact absurd rfl h0
  | cons r l =>
    rw [ht]
    have h1 : (58 : Int) ∈ runW r := by simp [runW]
    show (58 : Int) ∈ runW r ++ _
    exact List.mem_append_left _ h1
theorem parsed_text {c : List Run} (h : rightB c = true) : parsedB (strOfNums (textL c)) = true ∧ parsedL (strOfNums (textL c)) = c := by
  by_cases h0 : c = []
  · subst h0
    exact ⟨parsedB_true (.inl rfl), if_pos rfl⟩
  · have hp := parse0_text h h0
    have h58 := text_mem58 h h0
    have hb : okB (textL c) := by
      have ht : textL c = spc (c.map runW) := by unfold textL; rw [h, if_neg h0]; rfl
      rw [ht]
      exact okB_spc _ (fun w hw => by obtain ⟨r, _, rfl⟩ := List.mem_map.1 hw; exact okB_runW r)
    have n1 : ¬ strOfNums (textL c) = ⟨#[45]⟩ := fun e => by
      have := bytes_str hb
      rw [e] at this
      rw [← this] at h58
      exact absurd h58 (by decide)
    have n2 : ¬ strOfNums (textL c) = ⟨#[]⟩ := fun e => by
      have := bytes_str hb
      rw [e] at this
      rw [← this] at h58
      exact absurd h58 (by decide)
    have hk : parsedOk (strOfNums (textL c)) := .inr ⟨n2, by rw [hp]⟩
    exact ⟨parsedB_true hk, by rw [parsedL_yes n1 hk, hp]⟩

structure GetXX where
  x : EyX
  c : List Run
  y : EyX
@[reducible] def dgetX : Ctr := {
  X := GetXX
  Y := Unit
  args := fun x => [.ptr 0 0]
  rw := fun x => eyeE 0 x.x.l x.x.e
  side := fun x => okE x.x ∧ getS x.x = (x.c, x.y)
  val := fun _ => ()
  ens := fun _ _ => True
  res := fun _ _ => .sl 1000
  out := fun x _ => (1000, .row 47 runT x.c) :: eyeE 0 x.y.l x.y.e }
theorem dgetX_ok : dgetX.ok Tryz.prog 76 := ctr_re (C := dgetC) (fun x => x.x) (fun x h => ⟨h.1, trivial, rfl, rfl, rfl, by show _ :: eyeE _ _ _ = _ :: eyeE _ _ _; rw [h.2]⟩) dget_ok
@[reducible] def rgetX : Ctr := {
  X := GetXX
  Y := Unit
  args := fun x => [.ptr 0 0]
  rw := fun x => reyeE 0 x.x.l x.x.e
  side := fun x => okE x.x ∧ getS x.x = (x.c, x.y)
  val := fun _ => ()
  ens := fun _ _ => True
  res := fun _ _ => .sl 1000
  out := fun x _ => (1000, .row 47 runT x.c) :: reyeE 0 x.y.l x.y.e }
theorem rgetX_ok : rgetX.ok Tryz.prog 80 := ctr_re (C := rgetC) (fun x => x.x) (fun x h => ⟨h.1, trivial, rfl, rfl, rfl, by show _ :: reyeE _ _ _ = _ :: reyeE _ _ _; rw [h.2]⟩) rget_ok
end Go.Proofs.YthmbdjhlfieldaaGreatDoor

set_option linter.unusedVariables false
set_option linter.unusedSimpArgs false
set_option maxRecDepth 100000
set_option maxHeartbeats 4000000
namespace Go.Proofs.YthmbdjhlfieldaaGreatDoor
open Go.Eng
structure GiX where
  x : EyX
  it : Item
  z : EyX
@[reducible] def igetC : Ctr := {
  X := GiX
  Y := Unit
  args := fun _ => [.ptr 0 0]
  rw := fun x => eyeE 0 x.x.l x.x.e
  side := fun x => okE x.x ∧ getI x.x = (x.it, x.z)
  val := fun _ => ()
  ens := fun _ _ => True
  res := fun x _ => itemA x.it
  out := fun x _ => eyeE 0 x.z.l x.z.e }
theorem knownIg : Known Tryz.prog (gOf [(74, etextC), (75, eyNumX), (76, dgetX), (35, errC), (14, irightU), (77, failC)]) :=
  known_cons ⟨etext_ok, Tryz.call74⟩ (known_cons ⟨eyNumX_ok, Tryz.call75⟩ (known_cons ⟨dgetX_ok, Tryz.call76⟩ (known_cons ⟨err_ok, Tryz.call35⟩ (known_cons ⟨iright_re iright_ok, Tryz.call14⟩ (known_cons ⟨fail_ok, Tryz.call77⟩ (known_nil _))))))
theorem iget_ok : igetC.ok Tryz.prog 31 := by
  refine ok_of_vc (An := fun _ => anOf []) knownIg mo Tryz.func31 (by kernel_rfl) (by kernel_rfl) (fun _ _ => trivial) (fun (x : GiX) hs => ?_)
  obtain ⟨x, it, z⟩ := x
  obtain ⟨hok, hg⟩ := hs
  dsimp only at hok hg
  obtain ⟨⟨kb, z1⟩, q1⟩ : ∃ r, eyT x 24 = r := ⟨_, rfl⟩
  have o1 := eyT_okE hok (m := 24) (by omega)
  obtain ⟨⟨um, z2⟩, q2⟩ : ∃ r, eyS z1 7 = r := ⟨_, rfl⟩
  rw [q1] at o1
  have o2 := eyS_ok o1.1 7 (by omega)
  obtain ⟨⟨un, z3⟩, q3⟩ : ∃ r, eyS z2 1099511627776 = r := ⟨_, rfl⟩
  rw [q2] at o2
  have o3 := eyS_ok o2.1 1099511627776 (by omega)
  obtain ⟨⟨cc, z4⟩, q4⟩ : ∃ r, getS z3 = r := ⟨_, rfl⟩
  rw [q3] at o3
  have o4 := getS_okE o3.1
  have o4l := getS_len o3.1
  obtain ⟨⟨ug, z5⟩, q5⟩ : ∃ r, eyS z4 1 = r := ⟨_, rfl⟩
  rw [q4] at o4 o4l
  have o5 := eyS_ok o4 1 (by omega)
  rw [q5] at o5
  dsimp only at o1 o2 o3 o4 o5 o4l
  have p1 : okE z1 := o1.1
  have p2 : okE z2 := o2.1
  have p3 : okE z3 := o3.1
  have p5 : okE z5 := o5.1
  have g1 : giK x = (kb, z1) := q1
  have g2 : giM x = (um, z2) := by unfold giM; rw [g1]; exact q2
  have g3 : giN x = (un, z3) := by unfold giN; rw [g2]; exact q3
  have g4 : giP x = (cc, z4) := by unfold giP; rw [g3]; exact q4
  have g5 : giG x = (ug, z5) := by unfold giG; rw [g4]; exact q5
  have w1 : IntKind.i64.wrap um = um := wrap_i64 (by omega) (by omega)
  have w2 : IntKind.i64.wrap un = un := wrap_i64 (by omega) (by omega)
  have gI : getI x = if (giV x).2.e = 0 then (if itemB (giI x) then (giI x, (giV x).2) else (zeroI, ⟨[], 11⟩)) else (zeroI, (giV x).2) := rfl
  rw [hg] at gI
  by_cases hu : ug = 1
  · subst hu
    have g6 : giV x = ([], z5) := by unfold giV; rw [g5]; exact if_pos rfl
    have gi : giI x = (strOfNums kb, (um, un), cc, true, []) := by unfold giI; rw [g1, g2, g3, g4, g5, g6]; rfl
    have hV : okY [] := fun c hc => nomatch hc
    have hVl : ([] : List Int).length ≤ 64 := Nat.zero_le _
    rw [g6, gi] at gI
    dsimp only at gI
    have hkl : (strOfNums kb).size = kb.length := str_size kb
    have hub : ((1 : Int) == 1) = true := rfl
    obtain ⟨zl, ze⟩ := z5
    by_cases he0 : ze = 0
    · rw [if_pos he0] at gI
      cases hi : itemB (strOfNums kb, (um, un), cc, true, []) with
      | true =>
        rw [hi, if_pos rfl] at gI
        obtain ⟨rfl, rfl⟩ := Prod.mk.inj gI
        subst he0
        have lm := And.intro w1 (And.intro w2 (And.intro hi hub))
        have ck : Hc etextC ⟨x, 24, kb, z1⟩ (Hc eyNumX ⟨z1, 7, um, z2⟩ (Hc eyNumX ⟨z2, 1099511627776, un, z3⟩ (Hc dgetX ⟨z3, cc, z4⟩ (Hc eyNumX ⟨z4, 1, 1, ⟨zl, 0⟩⟩ (Hc errC ⟨zl, 0⟩ (Hc irightU (strOfNums kb, (um, un), cc, true, []) (Hc errC ⟨zl, 0⟩ True))))))) := .mk (.mk (.mk (.mk (.mk (.mk (.mk (.mk trivial)))))))
        exact G1
      | false =>
        rw [hi, if_neg (by simp)] at gI
        obtain ⟨rfl, rfl⟩ := Prod.mk.inj gI
        subst he0
        have k2 : failL ⟨zl, 0⟩ 11 = [] := if_pos ⟨rfl, by decide⟩
        have k3 : failE ⟨zl, 0⟩ 11 = 11 := if_pos ⟨rfl, by decide⟩
        have lm := And.intro w1 (And.intro w2 (And.intro hi (And.intro hub (And.intro k2 k3))))
        have ck : Hc etextC ⟨x, 24, kb, z1⟩ (Hc eyNumX ⟨z1, 7, um, z2⟩ (Hc eyNumX ⟨z2, 1099511627776, un, z3⟩ (Hc dgetX ⟨z3, cc, z4⟩ (Hc eyNumX ⟨z4, 1, 1, ⟨zl, 0⟩⟩ (Hc errC ⟨zl, 0⟩ (Hc irightU (strOfNums kb, (um, un), cc, true, []) (Hc failC (⟨zl, 0⟩, 11) (Hc errC ⟨[], 11⟩ True)))))))) := .mk (.mk (.mk (.mk (.mk (.mk (.mk (.mk (.mk trivial))))))))
        exact G1
    · rw [if_neg he0] at gI
      obtain ⟨rfl, rfl⟩ := Prod.mk.inj gI
      have lm := And.intro w1 (And.intro w2 hub)
      have ck : Hc etextC ⟨x, 24, kb, z1⟩ (Hc eyNumX ⟨z1, 7, um, z2⟩ (Hc eyNumX ⟨z2, 1099511627776, un, z3⟩ (Hc dgetX ⟨z3, cc, z4⟩ (Hc eyNumX ⟨z4, 1, 1, ⟨zl, ze⟩⟩ (Hc errC ⟨zl, ze⟩ (Hc errC ⟨zl, ze⟩ True)))))) := .mk (.mk (.mk (.mk (.mk (.mk (.mk trivial))))))
      exact G1
  · obtain ⟨⟨vb, z6⟩, q6⟩ : ∃ r, eyT z5 64 = r := ⟨_, rfl⟩
    have o6 := eyT_okE o5.1 (m := 64) (by omega)
    rw [q6] at o6
    dsimp only at o6
    have g6 : giV x = (vb, z6) := by unfold giV; rw [g5]; dsimp only; rw [if_neg hu]; exact q6
    have gi : giI x = (strOfNums kb, (um, un), cc, false, vb) := by unfold giI; rw [g1, g2, g3, g4, g5, g6]; dsimp only; rw [decide_eq_false hu]
    rw [g6, gi] at gI
    dsimp only at gI
    have hkl : (strOfNums kb).size = kb.length := str_size kb
    have hub : (ug == 1) = false := beq_eq_false_iff_ne.2 hu
    have p6 : okE z6 := o6.1
    obtain ⟨zl, ze⟩ := z6
    by_cases he0 : ze = 0
    · rw [if_pos he0] at gI
      cases hi : itemB (strOfNums kb, (um, un), cc, false, vb) with
      | true =>
        rw [hi, if_pos rfl] at gI
        obtain ⟨rfl, rfl⟩ := Prod.mk.inj gI
        subst he0
        have lm := And.intro w1 (And.intro w2 (And.intro hi hub))
        have ck : Hc etextC ⟨x, 24, kb, z1⟩ (Hc eyNumX ⟨z1, 7, um, z2⟩ (Hc eyNumX ⟨z2, 1099511627776, un, z3⟩ (Hc dgetX ⟨z3, cc, z4⟩ (Hc eyNumX ⟨z4, 1, ug, z5⟩ (Hc etextC ⟨z5, 64, vb, ⟨zl, 0⟩⟩ (Hc errC ⟨zl, 0⟩ (Hc irightU (strOfNums kb, (um, un), cc, false, vb) (Hc errC ⟨zl, 0⟩ True)))))))) := .mk (.mk (.mk (.mk (.mk (.mk (.mk (.mk (.mk trivial))))))))
        exact G1
      | false =>
        rw [hi, if_neg (by simp)] at gI
        obtain ⟨rfl, rfl⟩ := Prod.mk.inj gI
        subst he0
        have k2 : failL ⟨zl, 0⟩ 11 = [] := if_pos ⟨rfl, by decide⟩
        have k3 : failE ⟨zl, 0⟩ 11 = 11 := if_pos ⟨rfl, by decide⟩
        have lm := And.intro w1 (And.intro w2 (And.intro hi (And.intro hub (And.intro k2 k3))))
        have ck : Hc etextC ⟨x, 24, kb, z1⟩ (Hc eyNumX ⟨z1, 7, um, z2⟩ (Hc eyNumX ⟨z2, 1099511627776, un, z3⟩ (Hc dgetX ⟨z3, cc, z4⟩ (Hc eyNumX ⟨z4, 1, ug, z5⟩ (Hc etextC ⟨z5, 64, vb, ⟨zl, 0⟩⟩ (Hc errC ⟨zl, 0⟩ (Hc irightU (strOfNums kb, (um, un), cc, false, vb) (Hc failC (⟨zl, 0⟩, 11) (Hc errC ⟨[], 11⟩ True))))))))) := .mk (.mk (.mk (.mk (.mk (.mk (.mk (.mk (.mk (.mk trivial)))))))))
        exact G1
    · rw [if_neg he0] at gI
      obtain ⟨rfl, rfl⟩ := Prod.mk.inj gI
      have lm := And.intro w1 (And.intro w2 hub)
      have ck : Hc etextC ⟨x, 24, kb, z1⟩ (Hc eyNumX ⟨z1, 7, um, z2⟩ (Hc eyNumX ⟨z2, 1099511627776, un, z3⟩ (Hc dgetX ⟨z3, cc, z4⟩ (Hc eyNumX ⟨z4, 1, ug, z5⟩ (Hc etextC ⟨z5, 64, vb, ⟨zl, ze⟩⟩ (Hc errC ⟨zl, ze⟩ (Hc errC ⟨zl, ze⟩ True))))))) := .mk (.mk (.mk (.mk (.mk (.mk (.mk (.mk trivial)))))))
      exact G1

@[reducible] def endX : Ctr := {
  X := EyX × EyX
  Y := Unit
  args := fun x => [.ptr 0 0]
  rw := fun x => eyeE 0 x.1.l x.1.e
  side := fun x => x.1.l.length ≤ 274877906944 ∧ enS x.1 = x.2
  val := fun _ => ()
  ens := fun _ _ => True
  res := fun x _ => .v (.int .i64 x.2.e)
  out := fun x _ => eyeE 0 x.2.l x.2.e }
theorem endX_ok : endX.ok Tryz.prog 53 := ctr_re (C := endC) (fun x => x.1) (fun x h => ⟨h.1, trivial, rfl, rfl, by show SV.v (.int .i64 x.2.e) = SV.v (.int .i64 (enS x.1).e); rw [h.2], by show eyeE _ _ _ = eyeE _ (enS x.1).l (enS x.1).e; rw [h.2]⟩) end_ok
structure RdX where
  l : List Int
  it : Item
  e : Int
@[reducible] def ireadC : Ctr := {
  X := RdX
  Y := Unit
  args := fun x => [.ro true (.int .u8) x.l]
  rw := fun _ => []
  side := fun x => okE ⟨x.l, 0⟩ ∧ readI x.l = (x.it, x.e)
  val := fun _ => ()
  ens := fun _ _ => True
  res := fun x _ => .tuple [itemA x.it, .v (.int .i64 x.e)]
  out := fun x _ => [] }
theorem knownIrd : Known Tryz.prog (gOf [(30, readC), (31, igetC), (53, endX)]) :=
  known_cons ⟨read_ok, Tryz.call30⟩ (known_cons ⟨iget_ok, Tryz.call31⟩ (known_cons ⟨endX_ok, Tryz.call53⟩ (known_nil _)))
theorem iread_ok : ireadC.ok Tryz.prog 15 := by
  refine ok_of_vc (An := fun _ => anOf []) knownIrd mo Tryz.func15 (by kernel_rfl) (by kernel_rfl) (fun _ _ => trivial) (fun (x : RdX) hs => ?_)
  obtain ⟨l, it, e⟩ := x
  obtain ⟨hok, hr⟩ := hs
  dsimp only at hok hr
  obtain ⟨⟨it0, z0⟩, q0⟩ : ∃ r, getI ⟨l, 0⟩ = r := ⟨_, rfl⟩
  have o0 := getI_okE hok
  obtain ⟨⟨zl, ze⟩, q1⟩ : ∃ r, enS z0 = r := ⟨_, rfl⟩
  unfold readI at hr
  rw [q0] at hr o0
  dsimp only at hr o0
  rw [q1] at hr
  dsimp only at hr
  have hlen : l.length ≤ 274877906944 := hok.2
  have o0l := o0.2
  by_cases he0 : ze = 0
  · rw [if_pos he0] at hr
    obtain ⟨rfl, rfl⟩ := Prod.mk.inj hr
    subst he0
    have ck : Hc readC l (Hc igetC ⟨⟨l, 0⟩, it0, z0⟩ (Hc endX (z0, ⟨zl, 0⟩) True)) := .mk (.mk (.mk trivial))
    exact G1
  · rw [if_neg he0] at hr
    obtain ⟨rfl, rfl⟩ := Prod.mk.inj hr
    have ck : Hc readC l (Hc igetC ⟨⟨l, 0⟩, it0, z0⟩ (Hc endX (z0, ⟨zl, ze⟩) True)) := .mk (.mk (.mk trivial))
    exact G1
end Go.Proofs.YthmbdjhlfieldaaGreatDoor

set_option linter.unusedVariables false
set_option linter.unusedSimpArgs false
set_option maxRecDepth 100000
set_option maxHeartbeats 4000000
namespace Go.Proofs.YthmbdjhlfieldaaGreatDoor
open Go.Eng
@[reducible] def rigetC : Ctr := {
  X := GiX
  Y := Unit
  args := fun _ => [.ptr 0 0]
  rw := fun x => reyeE 0 x.x.l x.x.e
  side := fun x => okE x.x ∧ getI x.x = (x.it, x.z)
  val := fun _ => ()
  ens := fun _ _ => True
  res := fun x _ => itemA x.it
  out := fun x _ => reyeE 0 x.z.l x.z.e }
theorem knownRig : Known Tryz.prog (gOf [(78, retextC), (79, reyNumX), (80, rgetX), (19, irightU), (81, rfailC)]) :=
  known_cons ⟨retext_ok, Tryz.call78⟩ (known_cons ⟨reyNumX_ok, Tryz.call79⟩ (known_cons ⟨rgetX_ok, Tryz.call80⟩ (known_cons ⟨iright_re riright_ok, Tryz.call19⟩ (known_cons ⟨rfail_ok, Tryz.call81⟩ (known_nil _)))))
theorem riget_ok : rigetC.ok Tryz.prog 32 := by
  refine ok_of_vc (An := fun _ => anOf []) knownRig mo Tryz.func32 (by kernel_rfl) (by kernel_rfl) (fun _ _ => trivial) (fun (x : GiX) hs => ?_)
  obtain ⟨x, it, z⟩ := x
  obtain ⟨hok, hg⟩ := hs
  dsimp only at hok hg
  obtain ⟨⟨kb, z1⟩, q1⟩ : ∃ r, eyT x 24 = r := ⟨_, rfl⟩
  have o1 := eyT_okE hok (m := 24) (by omega)
  obtain ⟨⟨um, z2⟩, q2⟩ : ∃ r, eyS z1 7 = r := ⟨_, rfl⟩
  rw [q1] at o1
  have o2 := eyS_ok o1.1 7 (by omega)
  obtain ⟨⟨un, z3⟩, q3⟩ : ∃ r, eyS z2 1099511627776 = r := ⟨_, rfl⟩
  rw [q2] at o2
  have o3 := eyS_ok o2.1 1099511627776 (by omega)
  obtain ⟨⟨cc, z4⟩, q4⟩ : ∃ r, getS z3 = r := ⟨_, rfl⟩
  rw [q3] at o3
  have o4 := getS_okE o3.1
  have o4l := getS_len o3.1
  obtain ⟨⟨ug, z5⟩, q5⟩ : ∃ r, eyS z4 1 = r := ⟨_, rfl⟩
  rw [q4] at o4 o4l
  have o5 := eyS_ok o4 1 (by omega)
  rw [q5] at o5
  dsimp only at o1 o2 o3 o4 o5 o4l
  have p1 : okE z1 := o1.1
  have p2 : okE z2 := o2.1
  have p3 : okE z3 := o3.1
  have p5 : okE z5 := o5.1
  have g1 : giK x = (kb, z1) := q1
  have g2 : giM x = (um, z2) := by unfold giM; rw [g1]; exact q2
  have g3 : giN x = (un, z3) := by unfold giN; rw [g2]; exact q3
  have g4 : giP x = (cc, z4) := by unfold giP; rw [g3]; exact q4
  have g5 : giG x = (ug, z5) := by unfold giG; rw [g4]; exact q5
  have w1 : IntKind.i64.wrap um = um := wrap_i64 (by omega) (by omega)
  have w2 : IntKind.i64.wrap un = un := wrap_i64 (by omega) (by omega)
  have gI : getI x = if (giV x).2.e = 0 then (if itemB (giI x) then (giI x, (giV x).2) else (zeroI, ⟨[], 11⟩)) else (zeroI, (giV x).2) := rfl
  rw [hg] at gI
  by_cases hu : ug = 1
  · subst hu
    have g6 : giV x = ([], z5) := by unfold giV; rw [g5]; exact if_pos rfl
    have gi : giI x = (strOfNums kb, (um, un), cc, true, []) := by unfold giI; rw [g1, g2, g3, g4, g5, g6]; rfl
    have hV : okY [] := fun c hc => nomatch hc
    have hVl : ([] : List Int).length ≤ 64 := Nat.zero_le _
    rw [g6, gi] at gI
    dsimp only at gI
    have hkl : (strOfNums kb).size = kb.length := str_size kb
    have hub : ((1 : Int) == 1) = true := rfl
    obtain ⟨zl, ze⟩ := z5
    by_cases he0 : ze = 0
    · rw [if_pos he0] at gI
      cases hi : itemB (strOfNums kb, (um, un), cc, true, []) with
      | true =>
        rw [hi, if_pos rfl] at gI
        obtain ⟨rfl, rfl⟩ := Prod.mk.inj gI
        subst he0
        have lm := And.intro w1 (And.intro w2 (And.intro hi hub))
        have ck : Hc retextC ⟨x, 24, kb, z1⟩ (Hc reyNumX ⟨z1, 7, um, z2⟩ (Hc reyNumX ⟨z2, 1099511627776, un, z3⟩ (Hc rgetX ⟨z3, cc, z4⟩ (Hc reyNumX ⟨z4, 1, 1, ⟨zl, 0⟩⟩ (Hc irightU (strOfNums kb, (um, un), cc, true, []) True))))) := .mk (.mk (.mk (.mk (.mk (.mk trivial)))))
        exact G1
      | false =>
        rw [hi, if_neg (by simp)] at gI
        obtain ⟨rfl, rfl⟩ := Prod.mk.inj gI
        subst he0
        have k2 : failL ⟨zl, 0⟩ 11 = [] := if_pos ⟨rfl, by decide⟩
        have k3 : failE ⟨zl, 0⟩ 11 = 11 := if_pos ⟨rfl, by decide⟩
        have lm := And.intro w1 (And.intro w2 (And.intro hi (And.intro hub (And.intro k2 k3))))
        have ck : Hc retextC ⟨x, 24, kb, z1⟩ (Hc reyNumX ⟨z1, 7, um, z2⟩ (Hc reyNumX ⟨z2, 1099511627776, un, z3⟩ (Hc rgetX ⟨z3, cc, z4⟩ (Hc reyNumX ⟨z4, 1, 1, ⟨zl, 0⟩⟩ (Hc irightU (strOfNums kb, (um, un), cc, true, []) (Hc rfailC (⟨zl, 0⟩, 11) True)))))) := .mk (.mk (.mk (.mk (.mk (.mk (.mk trivial))))))
        exact G1
    · rw [if_neg he0] at gI
      obtain ⟨rfl, rfl⟩ := Prod.mk.inj gI
      have lm := And.intro w1 (And.intro w2 hub)
      have ck : Hc retextC ⟨x, 24, kb, z1⟩ (Hc reyNumX ⟨z1, 7, um, z2⟩ (Hc reyNumX ⟨z2, 1099511627776, un, z3⟩ (Hc rgetX ⟨z3, cc, z4⟩ (Hc reyNumX ⟨z4, 1, 1, ⟨zl, ze⟩⟩ True)))) := .mk (.mk (.mk (.mk (.mk trivial))))
      exact G1
  · obtain ⟨⟨vb, z6⟩, q6⟩ : ∃ r, eyT z5 64 = r := ⟨_, rfl⟩
    have o6 := eyT_okE o5.1 (m := 64) (by omega)
    rw [q6] at o6
    dsimp only at o6
    have g6 : giV x = (vb, z6) := by unfold giV; rw [g5]; dsimp only; rw [if_neg hu]; exact q6
    have gi : giI x = (strOfNums kb, (um, un), cc, false, vb) := by unfold giI; rw [g1, g2, g3, g4, g5, g6]; dsimp only; rw [decide_eq_false hu]
    rw [g6, gi] at gI
    dsimp only at gI
    have hkl : (strOfNums kb).size = kb.length := str_size kb
    have hub : (ug == 1) = false := beq_eq_false_iff_ne.2 hu
    have p6 : okE z6 := o6.1
    have hvb : bytesL (strOfNums vb) = vb := bytes_str o6.2.1
    have hvl : (strOfNums vb).size = vb.length := str_size vb
    obtain ⟨zl, ze⟩ := z6
    by_cases he0 : ze = 0
    · rw [if_pos he0] at gI
      cases hi : itemB (strOfNums kb, (um, un), cc, false, vb) with
      | true =>
        rw [hi, if_pos rfl] at gI
        obtain ⟨rfl, rfl⟩ := Prod.mk.inj gI
        subst he0
        have lm := And.intro w1 (And.intro w2 (And.intro hi (And.intro hub (And.intro hvb hvl))))
        have ck : Hc retextC ⟨x, 24, kb, z1⟩ (Hc reyNumX ⟨z1, 7, um, z2⟩ (Hc reyNumX ⟨z2, 1099511627776, un, z3⟩ (Hc rgetX ⟨z3, cc, z4⟩ (Hc reyNumX ⟨z4, 1, ug, z5⟩ (Hc retextC ⟨z5, 64, vb, ⟨zl, 0⟩⟩ (Hc irightU (strOfNums kb, (um, un), cc, false, vb) True)))))) := .mk (.mk (.mk (.mk (.mk (.mk (.mk trivial))))))
        exact G1
      | false =>
        rw [hi, if_neg (by simp)] at gI
        obtain ⟨rfl, rfl⟩ := Prod.mk.inj gI
        subst he0
        have k2 : failL ⟨zl, 0⟩ 11 = [] := if_pos ⟨rfl, by decide⟩
        have k3 : failE ⟨zl, 0⟩ 11 = 11 := if_pos ⟨rfl, by decide⟩
        have lm := And.intro w1 (And.intro w2 (And.intro hi (And.intro hub (And.intro k2 (And.intro k3 (And.intro hvb hvl))))))
        have ck : Hc retextC ⟨x, 24, kb, z1⟩ (Hc reyNumX ⟨z1, 7, um, z2⟩ (Hc reyNumX ⟨z2, 1099511627776, un, z3⟩ (Hc rgetX ⟨z3, cc, z4⟩ (Hc reyNumX ⟨z4, 1, ug, z5⟩ (Hc retextC ⟨z5, 64, vb, ⟨zl, 0⟩⟩ (Hc irightU (strOfNums kb, (um, un), cc, false, vb) (Hc rfailC (⟨zl, 0⟩, 11) True))))))) := .mk (.mk (.mk (.mk (.mk (.mk (.mk (.mk trivial)))))))
        exact G1
    · rw [if_neg he0] at gI
      obtain ⟨rfl, rfl⟩ := Prod.mk.inj gI
      have lm := And.intro w1 (And.intro w2 (And.intro hub (And.intro hvb hvl)))
      have ck : Hc retextC ⟨x, 24, kb, z1⟩ (Hc reyNumX ⟨z1, 7, um, z2⟩ (Hc reyNumX ⟨z2, 1099511627776, un, z3⟩ (Hc rgetX ⟨z3, cc, z4⟩ (Hc reyNumX ⟨z4, 1, ug, z5⟩ (Hc retextC ⟨z5, 64, vb, ⟨zl, ze⟩⟩ True))))) := .mk (.mk (.mk (.mk (.mk (.mk trivial)))))
      exact G1

end Go.Proofs.YthmbdjhlfieldaaGreatDoor

set_option linter.unusedVariables false
set_option linter.unusedSimpArgs false
set_option maxRecDepth 100000
set_option maxHeartbeats 4000000
namespace Go.Proofs.YthmbdjhlfieldaaGreatDoor
open Go.Eng
@[reducible] def rendX : Ctr := {
  X := EyX × EyX
  Y := Unit
  args := fun x => [.ptr 0 0]
  rw := fun x => reyeE 0 x.1.l x.1.e
  side := fun x => x.1.l.length ≤ 274877906944 ∧ enS x.1 = x.2
  val := fun _ => ()
  ens := fun _ _ => True
  res := fun x _ => .v (.int .i64 x.2.e)
  out := fun x _ => reyeE 0 x.2.l x.2.e }
theorem knownRend : Known Tryz.prog (gOf [(81, rfailC)]) := known_cons ⟨rfail_ok, Tryz.call81⟩ (known_nil _)
theorem rend_ok : rendX.ok Tryz.prog 82 := by
  refine ok_of_vc (An := fun _ => anOf []) knownRend mo Tryz.func82 (by kernel_rfl) (by kernel_rfl) (fun _ _ => trivial) (fun (x : EyX × EyX) hs => ?_)
  obtain ⟨⟨l, e⟩, ⟨zl, ze⟩⟩ := x
  obtain ⟨hl, hz⟩ := hs
  dsimp only at hl hz
  have hb := str_beq (strOfNums l) ⟨#[]⟩
  by_cases h : l = []
  · subst h
    have hz : (⟨[], e⟩ : EyX) = ⟨zl, ze⟩ := (if_pos rfl : enS ⟨[], e⟩ = _).symm.trans hz
    obtain ⟨rfl, rfl⟩ : [] = zl ∧ e = ze := by simp only [EyX.mk.injEq] at hz; exact hz
    rw [decide_eq_true (show strOfNums [] = ⟨#[]⟩ from rfl)] at hb
    have lm := hb
    exact G1
  · have hne : ¬ strOfNums l = ⟨#[]⟩ := fun hh => h (List.length_eq_zero_iff.1 (by rw [← str_size l, hh]; rfl))
    rw [decide_eq_false hne] at hb
    have hz : (⟨failL ⟨l, e⟩ 13, failE ⟨l, e⟩ 13⟩ : EyX) = ⟨zl, ze⟩ := (if_neg h : enS ⟨l, e⟩ = _).symm.trans hz
    obtain ⟨h1, h2⟩ : failL ⟨l, e⟩ 13 = zl ∧ failE ⟨l, e⟩ 13 = ze := by simp only [EyX.mk.injEq] at hz; exact hz
    have lm := And.intro hb (And.intro h1 h2)
    have ck : Hc rfailC (⟨l, e⟩, 13) True := .mk trivial
    exact G1
structure RrX where
  l : List Int
  it : Item
  e : Int
@[reducible] def rireadC : Ctr := {
  X := RrX
  Y := Unit
  args := fun x => [.v (.string (strOfNums x.l))]
  rw := fun _ => []
  side := fun x => okE ⟨x.l, 0⟩ ∧ readI x.l = (x.it, x.e)
  val := fun _ => ()
  ens := fun _ _ => True
  res := fun x _ => .tuple [itemA x.it, .v (.int .i64 x.e)]
  out := fun x _ => [] }
theorem knownRrd : Known Tryz.prog (gOf [(32, rigetC), (82, rendX)]) :=
  known_cons ⟨riget_ok, Tryz.call32⟩ (known_cons ⟨rend_ok, Tryz.call82⟩ (known_nil _))
theorem riread_ok : rireadC.ok Tryz.prog 33 := by
  refine ok_of_vc (An := fun _ => anOf []) knownRrd mo Tryz.func33 (by kernel_rfl) (by kernel_rfl) (fun _ _ => trivial) (fun (x : RrX) hs => ?_)
  obtain ⟨l, it, e⟩ := x
  obtain ⟨hok, hr⟩ := hs
  dsimp only at hok hr
  obtain ⟨⟨it0, z0⟩, q0⟩ : ∃ r, getI ⟨l, 0⟩ = r := ⟨_, rfl⟩
  have o0 := getI_okE hok
  obtain ⟨⟨zl, ze⟩, q1⟩ : ∃ r, enS z0 = r := ⟨_, rfl⟩
  unfold readI at hr
  rw [q0] at hr o0
  dsimp only at hr o0
  rw [q1] at hr
  dsimp only at hr
  have hlen : l.length ≤ 274877906944 := hok.2
  have o0l := o0.2
  by_cases he0 : ze = 0
  · rw [if_pos he0] at hr
    obtain ⟨rfl, rfl⟩ := Prod.mk.inj hr
    subst he0
    have ck : Hc rigetC ⟨⟨l, 0⟩, it0, z0⟩ (Hc rendX (z0, ⟨zl, 0⟩) True) := .mk (.mk trivial)
    exact G1
  · rw [if_neg he0] at hr
    obtain ⟨rfl, rfl⟩ := Prod.mk.inj hr
    have ck : Hc rigetC ⟨⟨l, 0⟩, it0, z0⟩ (Hc rendX (z0, ⟨zl, ze⟩) True) := .mk (.mk trivial)
    exact G1
end Go.Proofs.YthmbdjhlfieldaaGreatDoor

set_option linter.unusedVariables false
set_option linter.unusedSimpArgs false
set_option maxRecDepth 100000
set_option maxHeartbeats 4000000
namespace Go.Proofs.YthmbdjhlfieldaaGreatDoor
open Go.Eng
/-- A digit. -/
def digI (d : Int) : Int := if d < 10 then 48 + d else 87 + d
theorem digI_lt {d : Int} (h : d < 10) : digI d = 48 + d := if_pos h
theorem digI_ge {d : Int} (h : ¬ d < 10) : digI d = 87 + d := if_neg h
def hexL : List Int → List Int
  | [] => []
  | c :: l => digI (c / 16) :: digI (c % 16) :: hexL l
theorem hexL_app : ∀ (a b : List Int), hexL (a ++ b) = hexL a ++ hexL b
  | [], b => rfl
  | c :: a, b => by simp [hexL, hexL_app a b]
theorem hexL_len : ∀ a : List Int, (hexL a).length = 2 * a.length
  | [] => rfl
  | c :: a => by simp [hexL, hexL_len a]; omega
theorem dig_at (d : Int) (h0 : 0 ≤ d) (h1 : d < 16) : byteAt ⟨#[48, 49, 50, 51, 52, 53, 54, 55, 56, 57, 97, 98, 99, 100, 101, 102]⟩ d.toNat = digI d := by
  obtain ⟨n, rfl⟩ := Int.eq_ofNat_of_zero_le h0
  have hn : n < 16 := by omega
  have key : ∀ m : Fin 16, byteAt ⟨#[48, 49, 50, 51, 52, 53, 54, 55, 56, 57, 97, 98, 99, 100, 101, 102]⟩ (((m : Nat) : Int).toNat) = digI ((m : Nat) : Int) := by decide
  exact key ⟨n, hn⟩
theorem and15 (c : Int) (h0 : 0 ≤ c) (h1 : c < 256) : IntKind.u8.wrap ((BitVec.ofInt IntKind.u8.bits c &&& BitVec.ofInt IntKind.u8.bits 15).toNat : Nat) = c % 16 := by
  obtain ⟨n, rfl⟩ := Int.eq_ofNat_of_zero_le h0
  have hn : n < 256 := by omega
  have key : ∀ m : Fin 256, IntKind.u8.wrap ((BitVec.ofInt IntKind.u8.bits ((m : Nat) : Int) &&& BitVec.ofInt IntKind.u8.bits 15).toNat : Nat) = ((m : Nat) : Int) % 16 := by decide
  exact key ⟨n, hn⟩
theorem shr4 (c : Int) : c.fdiv (2 ^ min (4 : Int).toNat IntKind.u8.bits) = c / 16 := by
  have : min (4 : Int).toNat IntKind.u8.bits = 4 := rfl
  rw [this, Int.fdiv_eq_ediv_of_nonneg _ (by decide)]
  rfl

@[reducible] def hexesV : Ctr := {
  X := List Int
  Y := Unit
  args := fun x => [.ro true (.int .u8) x]
  rw := fun _ => []
  side := fun x => okB x ∧ x.length ≤ 100000000000
  val := fun _ => ()
  ens := fun _ _ => True
  res := fun x _ => .v (.string (strOfNums (hexL x)))
  out := fun _ _ => [] }
@[reducible] def hexesL (x : List Int) : LA := {
  X := Nat
  pre := fun i => i ≤ x.length
  mu := fun i => x.length - i
  T := fun i => [(3, .sl 2), (6, .ro true (.int .u8) x), (7, .v (.int .i64 x.length)), (8, .v (.int .i64 (i : Nat)))]
  M := fun i => [(2, .row 5 (.int .u8) (hexL (x.take i)))] }
theorem hexes_ok : hexesV.ok Tryz.prog 43 := by
  refine ok_of_vc (An := fun (x : List Int) => anOf [(0, .loop (hexesL x))]) (known_nil _) mo Tryz.func43 (by kernel_rfl) (by kernel_rfl) (fun _ _ => trivial) (fun (x : List Int) hs => ?_)
  obtain ⟨hb, hl⟩ : okB x ∧ x.length ≤ 100000000000 := hs
  (refine Z ?_; repeat' (first | exact .intro | ((first | refine B1 (fun h => ?_) fun h => ?_ | refine B2 fun y he he' hy => ?_ | refine B3 fun y he hy => ?_ | refine B4 fun y hy => ?_ | refine B5 fun ck => ?_ | fail) <;> refine Z ?_)))
  refine Some'.mk (0 : Nat) ?_
  (refine Z ?_; repeat' (first | exact .intro | ((first | refine B1 (fun h => ?_) fun h => ?_ | refine B2 fun y he he' hy => ?_ | refine B3 fun y he hy => ?_ | refine B4 fun y hy => ?_ | refine B5 fun ck => ?_ | fail) <;> refine Z ?_)))
  refine AllI.mk ?_
  rintro (i : Nat) hi
  dsimp only at hi
  have h2 := hexL_len (x.take i)
  have h3 : (x.take i).length ≤ x.length := by rw [List.length_take]; omega
  by_cases e : i = x.length
  · subst e
    rw [List.take_length] at h2
    have ht : x.take x.length = x := List.take_length
    exact G1
  · obtain ⟨c, hc⟩ : ∃ c, x[i]? = some c := ⟨_, List.getElem?_eq_getElem (by omega)⟩
    obtain ⟨c0, c1⟩ := hb c (List.mem_of_getElem? hc)
    (refine Zm ?_; repeat' (first | exact .intro | ((first | refine B1 (fun h => ?_) fun h => ?_ | refine B2 fun y he he' hy => ?_ | refine B3 fun y he hy => ?_ | refine B4 fun y hy => ?_ | refine B5 fun ck => ?_ | fail) <;> refine Zm ?_)))
    refine All'.mk ?_; rintro (c' : Int) hc'
    obtain rfl : c = c' := Option.some.inj (hc.symm.trans hc')
    have e1 := shr4 c
    have e2 := and15 c c0 c1
    have e3 := dig_at (c / 16) (by omega) (by omega)
    have e4 := dig_at (c % 16) (by omega) (by omega)
    (refine Z ?_; repeat' (first | exact .intro | ((first | refine B1 (fun h => ?_) fun h => ?_ | refine B2 fun y he he' hy => ?_ | refine B3 fun y he hy => ?_ | refine B4 fun y hy => ?_ | refine B5 fun ck => ?_ | fail) <;> refine Z ?_)))
    refine Ask.mk (by rw [e1]; exact ⟨by omega, by show c / 16 < 16; omega⟩) ?_
    (refine Z ?_; repeat' (first | exact .intro | ((first | refine B1 (fun h => ?_) fun h => ?_ | refine B2 fun y he he' hy => ?_ | refine B3 fun y he hy => ?_ | refine B4 fun y hy => ?_ | refine B5 fun ck => ?_ | fail) <;> refine Z ?_)))
    refine Ask.mk (by rw [e2]; exact ⟨by omega, by show c % 16 < 16; omega⟩) ?_
    (refine Z ?_; repeat' (first | exact .intro | ((first | refine B1 (fun h => ?_) fun h => ?_ | refine B2 fun y he he' hy => ?_ | refine B3 fun y he hy => ?_ | refine B4 fun y hy => ?_ | refine B5 fun ck => ?_ | fail) <;> refine Z ?_)))
    refine Some'.mk (i + 1) ?_
    (refine Z ?_; repeat' (first | exact .intro | ((first | refine B1 (fun h => ?_) fun h => ?_ | refine B2 fun y he he' hy => ?_ | refine B3 fun y he hy => ?_ | refine B4 fun y hy => ?_ | refine B5 fun ck => ?_ | fail) <;> refine Z ?_)))
    refine AskL.mk ?_ ?_
    · simp only [conj]
      have hc : (x : List Int)[i]? = some c := hc
      rw [take_get hc, hexL_app, e1, e2, e3, e4]
      (repeat' apply And.intro) <;> first | rfl | trivial | omega
    exact G1

@[reducible] def rHexC : Ctr := {
  X := ByteArray
  Y := Unit
  args := fun x => [.v (.string x)]
  rw := fun _ => []
  side := fun x => x.size ≤ 100000000000
  val := fun _ => ()
  ens := fun _ _ => True
  res := fun x _ => .v (.string (strOfNums (hexL (bytesL x))))
  out := fun _ _ => [] }
@[reducible] def rHexL (x : ByteArray) : LA := {
  X := Nat
  pre := fun i => i ≤ x.size
  mu := fun i => x.size - i
  T := fun i => [(0, .v (.string x)), (3, .v (.string (strOfNums (hexL ((bytesL x).take i))))), (4, .v (.int .i64 (i : Nat)))]
  M := fun i => [] }
def part2 (c : Int) (j : Nat) : List Int := ([digI (c / 16), digI (c % 16)] : List Int).take j
@[reducible] def rHexL2 (x : ByteArray) (i : Nat) : LA := {
  X := Nat
  pre := fun j => j ≤ 2
  mu := fun j => 2 - j
  T := fun j => [(0, .v (.string x)), (3, .v (.string (strOfNums (hexL ((bytesL x).take i) ++ part2 (byteAt x i) j)))), (4, .v (.int .i64 (i : Nat))), (21, .ro false (.int .u8) [byteAt x i / 16, byteAt x i % 16]), (22, .v (.int .i64 2)), (23, .v (.int .i64 (j : Nat)))]
  M := fun j => [] }
theorem rHex_ok : rHexC.ok Tryz.prog 27 := by
  refine ok_of_vc (An := fun (x : ByteArray) => anOfM fun ms => [(0, .loop (rHexL x)), (2, .loop (rHexL2 x (x.size - ms.headD 0)))]) (known_nil _) mo Tryz.func27 (by kernel_rfl) (by kernel_rfl) (fun _ _ => trivial) (fun (x : ByteArray) hs => ?_)
  have hs : x.size ≤ 100000000000 := hs
  (refine Z ?_; repeat' (first | exact .intro | ((first | refine B1 (fun h => ?_) fun h => ?_ | refine B2 fun y he he' hy => ?_ | refine B3 fun y he hy => ?_ | refine B4 fun y hy => ?_ | refine B5 fun ck => ?_ | fail) <;> refine Z ?_)))
  refine Some'.mk (0 : Nat) ?_
  (refine Z ?_; repeat' (first | exact .intro | ((first | refine B1 (fun h => ?_) fun h => ?_ | refine B2 fun y he he' hy => ?_ | refine B3 fun y he hy => ?_ | refine B4 fun y hy => ?_ | refine B5 fun ck => ?_ | fail) <;> refine Z ?_)))
  refine AllI.mk ?_
  rintro (i : Nat) hi
  have hi : i ≤ x.size := hi
  have hbl := bytesL_length x
  have h2 := hexL_len ((bytesL x).take i)
  rw [List.length_take, hbl] at h2
  by_cases e : i = x.size
  · subst e
    have ht : (bytesL x).take x.size = bytesL x := by rw [← hbl]; exact List.take_length
    exact G1
  · obtain ⟨c0, c1⟩ := byteAt_rng x i
    have hc := byteAt_some (s := x) (i := i) (by omega)
    have hms : x.size - (x.size - i) = i := by omega
    have hd : (byteAt x i).tdiv 16 = byteAt x i / 16 := Int.tdiv_eq_ediv_of_nonneg c0
    have hm : (byteAt x i).tmod 16 = byteAt x i % 16 := Int.tmod_eq_emod_of_nonneg c0
    (refine Z ?_; repeat' (first | exact .intro | ((first | refine B1 (fun h => ?_) fun h => ?_ | refine B2 fun y he he' hy => ?_ | refine B3 fun y he hy => ?_ | refine B4 fun y hy => ?_ | refine B5 fun ck => ?_ | fail) <;> refine Z ?_)))
    refine Ar.fit (wrap_u8 (by show 0 ≤ (byteAt x i).tdiv 16; omega) (by show (byteAt x i).tdiv 16 ≤ 255; omega)) ?_
    (refine Z ?_; repeat' (first | exact .intro | ((first | refine B1 (fun h => ?_) fun h => ?_ | refine B2 fun y he he' hy => ?_ | refine B3 fun y he hy => ?_ | refine B4 fun y hy => ?_ | refine B5 fun ck => ?_ | fail) <;> refine Z ?_)))
    rw [show x.size - [(rHexL x).mu i].headD 0 = i from hms]
    refine Some'.mk (0 : Nat) ?_
    have lm := And.intro hd hm
    (refine Z ?_; repeat' (first | exact .intro | ((first | refine B1 (fun h => ?_) fun h => ?_ | refine B2 fun y he he' hy => ?_ | refine B3 fun y he hy => ?_ | refine B4 fun y hy => ?_ | refine B5 fun ck => ?_ | fail) <;> refine Z ?_)))
    have hz : part2 (byteAt x i) 0 = [] := rfl
    refine AskL.mk ?_ ?_
    · simp only [conj, hz, List.append_nil]
      (repeat' apply And.intro) <;> first | rfl | trivial | assumption
    (refine Z ?_; repeat' (first | exact .intro | ((first | refine B1 (fun h => ?_) fun h => ?_ | refine B2 fun y he he' hy => ?_ | refine B3 fun y he hy => ?_ | refine B4 fun y hy => ?_ | refine B5 fun ck => ?_ | fail) <;> refine Z ?_)))
    refine AllI.mk ?_
    rintro (j : Nat) hj
    have hj : j ≤ 2 := hj
    have hj : j = 0 ∨ j = 1 ∨ j = 2 := by omega
    rcases hj with rfl | rfl | rfl
    · have hg1 := digI_lt (d := byteAt x i / 16)
      have hg2 := digI_ge (d := byteAt x i / 16)
      (refine Zm ?_; repeat' (first | exact .intro | ((first | refine B1 (fun h => ?_) fun h => ?_ | refine B2 fun y he he' hy => ?_ | refine B3 fun y he hy => ?_ | refine B4 fun y hy => ?_ | refine B5 fun ck => ?_ | fail) <;> refine Zm ?_)))
      refine All'.mk ?_; rintro (y : Int) hy
      have e : y = byteAt x i / 16 := (Option.some.inj hy).symm
      subst e
      (refine Z ?_; repeat' (first | exact .intro | ((first | refine B1 (fun h => ?_) fun h => ?_ | refine B2 fun y he he' hy => ?_ | refine B3 fun y he hy => ?_ | refine B4 fun y hy => ?_ | refine B5 fun ck => ?_ | fail) <;> refine Z ?_)))
      all_goals
        refine Ask.mk (by simp only [str_size, List.length_append, h2]; simp [part2]; omega) ?_
        (refine Z ?_; repeat' (first | exact .intro | ((first | refine B1 (fun h => ?_) fun h => ?_ | refine B2 fun y he he' hy => ?_ | refine B3 fun y he hy => ?_ | refine B4 fun y hy => ?_ | refine B5 fun ck => ?_ | fail) <;> refine Z ?_)))
        refine Some'.mk (1 : Nat) ?_
        (refine Zn ?_; repeat' (first | exact .intro | ((first | refine B1 (fun h => ?_) fun h => ?_ | refine B2 fun y he he' hy => ?_ | refine B3 fun y he hy => ?_ | refine B4 fun y hy => ?_ | refine B5 fun ck => ?_ | fail) <;> refine Zn ?_)))
        refine AskL.mk ?_ ?_
        · simp only [conj, str_cat, List.append_assoc]
          simp only [part2]
          first | rw [digI_lt h] | rw [digI_ge h]
          (repeat' apply And.intro) <;> first | rfl | trivial
        (refine Z ?_; repeat' (first | exact .intro | ((first | refine B1 (fun h => ?_) fun h => ?_ | refine B2 fun y he he' hy => ?_ | refine B3 fun y he hy => ?_ | refine B4 fun y hy => ?_ | refine B5 fun ck => ?_ | fail) <;> refine Z ?_)))
    · have hg1 := digI_lt (d := byteAt x i % 16)
      have hg2 := digI_ge (d := byteAt x i % 16)
      (refine Zm ?_; repeat' (first | exact .intro | ((first | refine B1 (fun h => ?_) fun h => ?_ | refine B2 fun y he he' hy => ?_ | refine B3 fun y he hy => ?_ | refine B4 fun y hy => ?_ | refine B5 fun ck => ?_ | fail) <;> refine Zm ?_)))
      refine All'.mk ?_; rintro (y : Int) hy
      have e : y = byteAt x i % 16 := (Option.some.inj hy).symm
      subst e
      (refine Z ?_; repeat' (first | exact .intro | ((first | refine B1 (fun h => ?_) fun h => ?_ | refine B2 fun y he he' hy => ?_ | refine B3 fun y he hy => ?_ | refine B4 fun y hy => ?_ | refine B5 fun ck => ?_ | fail) <;> refine Z ?_)))
      all_goals
        refine Ask.mk (by simp only [str_size, List.length_append, h2]; simp [part2]; omega) ?_
        (refine Z ?_; repeat' (first | exact .intro | ((first | refine B1 (fun h => ?_) fun h => ?_ | refine B2 fun y he he' hy => ?_ | refine B3 fun y he hy => ?_ | refine B4 fun y hy => ?_ | refine B5 fun ck => ?_ | fail) <;> refine Z ?_)))
        refine Some'.mk (2 : Nat) ?_
        (refine Zn ?_; repeat' (first | exact .intro | ((first | refine B1 (fun h => ?_) fun h => ?_ | refine B2 fun y he he' hy => ?_ | refine B3 fun y he hy => ?_ | refine B4 fun y hy => ?_ | refine B5 fun ck => ?_ | fail) <;> refine Zn ?_)))
        refine AskL.mk ?_ ?_
        · simp only [conj, str_cat, List.append_assoc]
          simp only [part2]
          first | rw [digI_lt h] | rw [digI_ge h]
          (repeat' apply And.intro) <;> first | rfl | trivial
        (refine Z ?_; repeat' (first | exact .intro | ((first | refine B1 (fun h => ?_) fun h => ?_ | refine B2 fun y he he' hy => ?_ | refine B3 fun y he hy => ?_ | refine B4 fun y hy => ?_ | refine B5 fun ck => ?_ | fail) <;> refine Z ?_)))
    · have ht := take_get hc
      have hp : part2 (byteAt x i) 2 = hexL [byteAt x i] := rfl
      (refine Z ?_; repeat' (first | exact .intro | ((first | refine B1 (fun h => ?_) fun h => ?_ | refine B2 fun y he he' hy => ?_ | refine B3 fun y he hy => ?_ | refine B4 fun y hy => ?_ | refine B5 fun ck => ?_ | fail) <;> refine Z ?_)))
      refine Some'.mk (i + 1) ?_
      (refine Zn ?_; repeat' (first | exact .intro | ((first | refine B1 (fun h => ?_) fun h => ?_ | refine B2 fun y he he' hy => ?_ | refine B3 fun y he hy => ?_ | refine B4 fun y hy => ?_ | refine B5 fun ck => ?_ | fail) <;> refine Zn ?_)))
      refine AskL.mk ?_ ?_
      · simp only [conj, hp]
        rw [ht, hexL_app]
        (repeat' apply And.intro) <;> first | rfl | trivial
      exact G1
def isH (c : Int) : Bool := decide (48 ≤ c ∧ c ≤ 57) || decide (97 ≤ c ∧ c ≤ 102)
/-- What a digit counts; 15: it is none. -/
def uI (c : Int) : Int := if 48 ≤ c ∧ c ≤ 57 then c - 48 else if 97 ≤ c ∧ c ≤ 102 then c - 87 else 15
theorem uI_rng (c : Int) : 0 ≤ uI c ∧ uI c < 16 := by
  unfold uI
  split
  · omega
  · split <;> omega
def unhexL : List Int → List Int
  | a :: b :: l => (uI a * 16 + uI b) :: unhexL l
  | _ => []
theorem unhexL_snoc : ∀ (k : Nat) (l : List Int) (a b : Int), l.length = 2 * k → unhexL (l ++ [a, b]) = unhexL l ++ [uI a * 16 + uI b]
  | 0, [], a, b, _ => rfl
  | k + 1, x :: y :: l, a, b, h => by
    have := unhexL_snoc k l a b (by simp at h; omega)
    simp only [List.cons_append, unhexL, this]
  | 0, _ :: _, _, _, h => by simp at h
  | k + 1, [], _, _, h => by simp at h
  | k + 1, [_], _, _, h => by simp at h; omega
theorem unhexL_odd : ∀ (k : Nat) (l r : List Int), l.length = 2 * k → r.length ≤ 1 → unhexL (l ++ r) = unhexL l
  | 0, [], [], _, _ => rfl
  | 0, [], [_], _, _ => rfl
  | k + 1, x :: y :: l, r, h, hr => by
    have := unhexL_odd k l r (by simp at h; omega) hr
    simp only [List.cons_append, unhexL, this]
  | 0, [], _ :: _ :: _, _, h => by simp at h
  | 0, _ :: _, _, h, _ => by simp at h
  | k + 1, [], _, h, _ => by simp at h
  | k + 1, [_], _, h, _ => by simp at h; omega
theorem unhexL_len : ∀ (k : Nat) (l : List Int), l.length ≤ 2 * k → (unhexL l).length ≤ k
  | _, [], _ => Nat.zero_le _
  | _, [_], _ => Nat.zero_le _
  | k + 1, _ :: _ :: l, h => by
    have := unhexL_len k l (by simp at h; omega)
    simp only [unhexL, List.length_cons]; omega
  | 0, _ :: _ :: _, h => by simp at h
theorem unhexL_ok : ∀ (l : List Int), okB (unhexL l)
  | [] => fun c hc => by cases hc
  | [_] => fun c hc => by cases hc
  | a :: b :: l => by
    have := uI_rng a
    have := uI_rng b
    exact okB_cons (by omega) (unhexL_ok l)

def digS : ByteArray := ⟨#[48, 49, 50, 51, 52, 53, 54, 55, 56, 57, 97, 98, 99, 100, 101, 102]⟩
theorem u8_back (c : Int) (h0 : 0 ≤ c) (h1 : c < 256) : (((c.toNat.toUInt8).toNat : Nat) : Int) = c := by
  have : (c.toNat.toUInt8).toNat = c.toNat % 256 := UInt8.toNat_ofNat'
  rw [this]; omega
/-- What two bytes make. -/
def mkI (c d : Int) : Int := IntKind.u8.wrap (IntKind.i64.wrap ((BitVec.ofInt IntKind.i64.bits (Lib.indexByte digS.data.toList c.toNat.toUInt8 * 2 ^ min (4 : Int).toNat IntKind.i64.bits) |||
  BitVec.ofInt IntKind.i64.bits (IntKind.i64.wrap ((BitVec.ofInt IntKind.i64.bits (Lib.indexByte digS.data.toList d.toNat.toUInt8) &&& BitVec.ofInt IntKind.i64.bits 15).toNat : Nat))).toNat : Nat))
def mk2 (u v : Int) : Int := IntKind.u8.wrap (IntKind.i64.wrap ((BitVec.ofInt IntKind.i64.bits (u * 2 ^ min (4 : Int).toNat IntKind.i64.bits) |||
  BitVec.ofInt IntKind.i64.bits (IntKind.i64.wrap ((BitVec.ofInt IntKind.i64.bits v &&& BitVec.ofInt IntKind.i64.bits 15).toNat : Nat))).toNat : Nat))
theorem ixb (c : Int) (h0 : 0 ≤ c) (h1 : c < 256) : Lib.indexByte digS.data.toList c.toNat.toUInt8 = (if isH c then uI c else -1) := by
  obtain ⟨n, rfl⟩ := Int.eq_ofNat_of_zero_le h0
  have hn : n < 256 := by omega
  have key : ∀ m : Fin 256, Lib.indexByte digS.data.toList (((m : Nat) : Int).toNat.toUInt8) = (if isH ((m : Nat) : Int) then uI ((m : Nat) : Int) else -1) := by decide
  exact key ⟨n, hn⟩
theorem mk2_eq (u v : Fin 17) : mk2 ((u : Nat) - 1 : Int) ((v : Nat) - 1 : Int) = (if (u : Nat) = 0 then 15 else ((u : Nat) - 1 : Int)) * 16 + (if (v : Nat) = 0 then 15 else ((v : Nat) - 1 : Int)) := by
  revert u v
  decide
theorem mkI_eq (c d : Int) (h0 : 0 ≤ c) (h1 : c < 256) (g0 : 0 ≤ d) (g1 : d < 256) : mkI c d = uI c * 16 + uI d := by
  have e : mkI c d = mk2 (if isH c then uI c else -1) (if isH d then uI d else -1) := by rw [← ixb c h0 h1, ← ixb d g0 g1]; rfl
  have hc := uI_rng c
  have hd := uI_rng d
  have key := mk2_eq ⟨((if isH c then uI c else -1) + 1).toNat, by split <;> omega⟩ ⟨((if isH d then uI d else -1) + 1).toNat, by split <;> omega⟩
  have nc : ∀ x : Int, isH x = false → uI x = 15 := fun x hx => by
    simp only [isH, Bool.or_eq_false_iff, decide_eq_false_iff_not] at hx
    unfold uI; rw [if_neg hx.1, if_neg hx.2]
  have ec : ((((if isH c then uI c else -1) + 1).toNat : Int) - 1) = (if isH c then uI c else -1) := by split <;> omega
  have ed : ((((if isH d then uI d else -1) + 1).toNat : Int) - 1) = (if isH d then uI d else -1) := by split <;> omega
  dsimp only at key
  rw [ec, ed] at key
  rw [e, key]
  cases h1 : isH c <;> cases h2 : isH d <;> simp [nc c, nc d, h1, h2] <;> omega

theorem knownA4 : Known Tryz.prog (gOf [(86, indexByteC)]) := known_cons ⟨indexByte_ok, Tryz.call86⟩ (known_nil _)
@[reducible] def unhexedC : Ctr := {
  X := ByteArray
  Y := Unit
  args := fun x => [.v (.string x)]
  rw := fun _ => []
  side := fun x => x.size ≤ 100000000000
  val := fun _ => ()
  ens := fun _ _ => True
  res := fun x _ => .ro false (.int .u8) (unhexL (bytesL x))
  out := fun _ _ => [] }
@[reducible] def unhexedL (x : ByteArray) : LA := {
  X := Nat
  pre := fun i => 2 * i ≤ x.size
  mu := fun i => x.size - 2 * i
  T := fun i => [(0, .v (.string x)), (3, .sl 2), (4, .v (.int .i64 (2 * i : Nat)))]
  M := fun i => [(2, .row 5 (.int .u8) (unhexL ((bytesL x).take (2 * i))))] }
theorem unhexed_ok : unhexedC.ok Tryz.prog 39 := by
  refine ok_of_vc (An := fun (x : ByteArray) => anOf [(0, .loop (unhexedL x))]) knownA4 mo Tryz.func39 (by kernel_rfl) (by kernel_rfl) (fun _ _ => trivial) (fun (x : ByteArray) hs => ?_)
  have hs : x.size ≤ 100000000000 := hs
  (refine Z ?_; repeat' (first | exact .intro | ((first | refine B1 (fun h => ?_) fun h => ?_ | refine B2 fun y he he' hy => ?_ | refine B3 fun y he hy => ?_ | refine B4 fun y hy => ?_ | refine B5 fun ck => ?_ | fail) <;> refine Z ?_)))
  refine Some'.mk (0 : Nat) ?_
  (refine Z ?_; repeat' (first | exact .intro | ((first | refine B1 (fun h => ?_) fun h => ?_ | refine B2 fun y he he' hy => ?_ | refine B3 fun y he hy => ?_ | refine B4 fun y hy => ?_ | refine B5 fun ck => ?_ | fail) <;> refine Z ?_)))
  refine AllI.mk ?_
  rintro (i : Nat) hi
  have hi : 2 * i ≤ x.size := hi
  have hbl := bytesL_length x
  have hln := unhexL_len i ((bytesL x).take (2 * i)) (by rw [List.length_take]; omega)
  by_cases e : 2 * i + 1 < x.size
  · obtain ⟨c0, c1⟩ := byteAt_rng x (2 * i)
    obtain ⟨d0, d1⟩ := byteAt_rng x (2 * i + 1)
    have hc := byteAt_some (s := x) (i := 2 * i) (by omega)
    have hd := byteAt_some (s := x) (i := 2 * i + 1) (by omega)
    have hci := ixb (byteAt x (2 * i)) c0 c1
    have hr := uI_rng (byteAt x (2 * i))
    (refine Z ?_; repeat' (first | exact .intro | ((first | refine B1 (fun h => ?_) fun h => ?_ | refine B2 fun y he he' hy => ?_ | refine B3 fun y he hy => ?_ | refine B4 fun y hy => ?_ | refine B5 fun ck => ?_ | fail) <;> refine Z ?_)))
    refine CallP.mk (C := indexByteC) ⟨digS, (byteAt x (2 * i)).toNat.toUInt8⟩ ?_
    (refine Zn ?_; repeat' (first | exact .intro | ((first | refine B1 (fun h => ?_) fun h => ?_ | refine B2 fun y he he' hy => ?_ | refine B3 fun y he hy => ?_ | refine B4 fun y hy => ?_ | refine B5 fun ck => ?_ | fail) <;> refine Zn ?_)))
    refine AskL.mk ⟨rfl, (u8_back _ c0 c1).symm⟩ ?_
    have hci' : -1 ≤ Lib.indexByte digS.data.toList (byteAt x (2 * i)).toNat.toUInt8 ∧ Lib.indexByte digS.data.toList (byteAt x (2 * i)).toNat.toUInt8 < 16 := by rw [hci]; split <;> omega
    (refine Z ?_; repeat' (first | exact .intro | ((first | refine B1 (fun h => ?_) fun h => ?_ | refine B2 fun y he he' hy => ?_ | refine B3 fun y he hy => ?_ | refine B4 fun y hy => ?_ | refine B5 fun ck => ?_ | fail) <;> refine Z ?_)))
    refine Ar.fit (wrap_i64 (by show (_ : Int) ≤ Lib.indexByte digS.data.toList (byteAt x (2 * i)).toNat.toUInt8 * 16; omega) (by show Lib.indexByte digS.data.toList (byteAt x (2 * i)).toNat.toUInt8 * 16 ≤ (_ : Int); omega)) ?_
    (refine Z ?_; repeat' (first | exact .intro | ((first | refine B1 (fun h => ?_) fun h => ?_ | refine B2 fun y he he' hy => ?_ | refine B3 fun y he hy => ?_ | refine B4 fun y hy => ?_ | refine B5 fun ck => ?_ | fail) <;> refine Z ?_)))
    refine CallP.mk (C := indexByteC) ⟨digS, (byteAt x (2 * i + 1)).toNat.toUInt8⟩ ?_
    (refine Zn ?_; repeat' (first | exact .intro | ((first | refine B1 (fun h => ?_) fun h => ?_ | refine B2 fun y he he' hy => ?_ | refine B3 fun y he hy => ?_ | refine B4 fun y hy => ?_ | refine B5 fun ck => ?_ | fail) <;> refine Zn ?_)))
    refine AskL.mk ⟨rfl, (u8_back _ d0 d1).symm⟩ ?_
    (refine Z ?_; repeat' (first | exact .intro | ((first | refine B1 (fun h => ?_) fun h => ?_ | refine B2 fun y he he' hy => ?_ | refine B3 fun y he hy => ?_ | refine B4 fun y hy => ?_ | refine B5 fun ck => ?_ | fail) <;> refine Z ?_)))
    refine Some'.mk (i + 1) ?_
    (refine Zn ?_; repeat' (first | exact .intro | ((first | refine B1 (fun h => ?_) fun h => ?_ | refine B2 fun y he he' hy => ?_ | refine B3 fun y he hy => ?_ | refine B4 fun y hy => ?_ | refine B5 fun ck => ?_ | fail) <;> refine Zn ?_)))
    refine AskL.mk ?_ ?_
    · simp only [conj]
      rw [show 2 * (i + 1) = 2 * i + 1 + 1 by omega, take_get hd, take_get hc, List.append_assoc]
      have hu := unhexL_snoc i ((bytesL x).take (2 * i)) (byteAt x (2 * i)) (byteAt x (2 * i + 1)) (by rw [List.length_take]; omega)
      rw [← mkI_eq _ _ c0 c1 d0 d1] at hu
      exact ⟨⟨trivial, by omega⟩, (congrArg (fun l => SV.ro true (Ty.int IntKind.u8) l) hu).symm⟩
    exact G1
  · have ht : (bytesL x).take (2 * i) ++ (bytesL x).drop (2 * i) = bytesL x := List.take_append_drop ..
    have ho := unhexL_odd i ((bytesL x).take (2 * i)) ((bytesL x).drop (2 * i)) (by rw [List.length_take]; omega) (by rw [List.length_drop]; omega)
    rw [ht] at ho
    exact G1

end Go.Proofs.YthmbdjhlfieldaaGreatDoor

set_option linter.unusedVariables false
set_option linter.unusedSimpArgs false
set_option maxRecDepth 100000
namespace Go.Proofs.YthmbdjhlfieldaaGreatDoor
open Go.Eng
theorem uI_dig {d : Int} (h0 : 0 ≤ d) (h1 : d < 16) : uI (digI d) = d ∧ isH (digI d) = true := by
  unfold digI uI isH
  by_cases h : d < 10
  · rw [if_pos h, if_pos (by omega)]
    exact ⟨by omega, by simp; omega⟩
  · rw [if_neg h, if_neg (by omega), if_pos (by omega)]
    exact ⟨by omega, by simp; omega⟩
theorem unhex_hex : ∀ {l : List Int}, okB l → unhexL (hexL l) = l ∧ (hexL l).all isH = true
  | [], _ => ⟨rfl, rfl⟩
  | c :: l, h => by
    have hc := h c (List.mem_cons_self ..)
    obtain ⟨h1, h2⟩ := unhex_hex (okB_tail h)
    obtain ⟨a1, a2⟩ := uI_dig (d := c / 16) (by omega) (by omega)
    obtain ⟨b1, b2⟩ := uI_dig (d := c % 16) (by omega) (by omega)
    simp only [hexL, unhexL, a1, b1, h1, List.all_cons, a2, b2, h2]
    exact ⟨by congr 1; omega, rfl⟩
theorem isH_rng {c : Int} (h : isH c = true) : (48 ≤ c ∧ c ≤ 57) ∨ (97 ≤ c ∧ c ≤ 102) := by
  simpa [isH] using h
theorem okB_hex (l : List Int) (h : okB l) : okB (hexL l) := fun c hc => by
  have := List.all_eq_true.1 (unhex_hex h).2 c hc
  have := isH_rng this
  omega
theorem hex_free {l : List Int} (h : okB l) {c : Int} (hc : isH c = false) : c ∉ hexL l := fun hm => by
  have := List.all_eq_true.1 (unhex_hex h).2 c hm
  rw [hc] at this; cases this

theorem index_two (x y : UInt8) (a b : List UInt8) (h : x ∉ a ∨ (y ∉ a ∧ ¬ x = y)) : Lib.index (a ++ x :: y :: b) [x, y] = (a.length : Nat) := by
  refine Lib.index_first (by simp) (by unfold Lib.occAt; rw [List.drop_left]; simp [List.isPrefixOf]) (fun j hj => ?_)
  unfold Lib.occAt
  rw [List.drop_append_of_le_length (by omega)]
  obtain ⟨p, hp⟩ : ∃ p, a[j]? = some p := ⟨_, List.getElem?_eq_getElem hj⟩
  have hd : a.drop j = p :: a.drop (j + 1) := by
    obtain ⟨h5, h6⟩ := List.getElem?_eq_some_iff.1 hp
    rw [List.drop_eq_getElem_cons h5, h6]
  rw [hd, List.cons_append]
  by_cases hpx : p = x
  · rcases h with h | ⟨h, hxy⟩
    · exact absurd (hpx ▸ List.mem_of_getElem? hp) h
    · cases hq : a.drop (j + 1) with
      | nil => simp [List.isPrefixOf, Ne.symm hxy]
      | cons q r =>
        have hqa : q ∈ a := List.mem_of_mem_drop (i := j + 1) (by rw [hq]; exact List.mem_cons_self ..)
        have : ¬ y = q := fun e => h (e ▸ hqa)
        simp [List.isPrefixOf, this]
  · have : ¬ x = p := fun e => hpx e.symm
    simp [List.isPrefixOf, this]
theorem cut_two {x y : Int} {a b : List Int} (ha : okB a) (hx : 0 ≤ x ∧ x < 256) (hy : 0 ≤ y ∧ y < 256) (h : x ∉ a ∨ (y ∉ a ∧ ¬ x = y)) :
    cutS (strOfNums (a ++ [x, y] ++ b)) (strOfNums [x, y]) = (strOfNums a, strOfNums b, true) := by
  have hb : ∀ z : Int, 0 ≤ z ∧ z < 256 → z ∉ a → UInt8.ofNat z.toNat ∉ (strOfNums a).data.toList := fun z hz hn => by rw [strs_data]; exact u8_mem ha hz.1 hz.2 hn
  have hne : ¬ x = y → ¬ UInt8.ofNat x.toNat = UInt8.ofNat y.toNat := fun hn e => hn (by
    have e2 := congrArg UInt8.toNat e
    rw [UInt8.toNat_ofNat', UInt8.toNat_ofNat', Nat.mod_eq_of_lt (by omega), Nat.mod_eq_of_lt (by omega)] at e2
    omega)
  unfold cutS Lib.cut
  have e1 : (strOfNums [x, y]).data.toList = [UInt8.ofNat x.toNat, UInt8.ofNat y.toNat] := strs_data [x, y]
  have e2 : (strOfNums (a ++ [x, y] ++ b)).data.toList = (strOfNums a).data.toList ++ UInt8.ofNat x.toNat :: UInt8.ofNat y.toNat :: (strOfNums b).data.toList := by
    rw [strs_data, strs_data, strs_data]; simp
  have e := index_two (UInt8.ofNat x.toNat) (UInt8.ofNat y.toNat) (strOfNums a).data.toList (strOfNums b).data.toList (h.imp (hb x hx) (fun k => ⟨hb y hy k.1, hne k.2⟩))
  rw [e1, e2, e, if_pos (by omega)]
  have e3 : (((strOfNums a).data.toList.length : Nat) : Int).toNat = (strOfNums a).data.toList.length := by omega
  have d1 : ((strOfNums a).data.toList ++ UInt8.ofNat x.toNat :: UInt8.ofNat y.toNat :: (strOfNums b).data.toList).take (strOfNums a).data.toList.length = (strOfNums a).data.toList := List.take_left
  have d2 : ((strOfNums a).data.toList ++ UInt8.ofNat x.toNat :: UInt8.ofNat y.toNat :: (strOfNums b).data.toList).drop ((strOfNums a).data.toList.length + [UInt8.ofNat x.toNat, UInt8.ofNat y.toNat].length) = (strOfNums b).data.toList := by rw [← List.drop_drop, List.drop_left]; rfl
  rw [e3]
  dsimp only
  rw [d1, d2]

def valW (b : Bool) (v : List Int) : List Int := if b then [103, 111, 110, 101] else if v = [] then [46] else hexL v
def dotX (d : Dot) : List Int := textL [(d.1, d.2, d.2)]
def itemTx (x : Item) : List Int := hexL (bytesL x.1) ++ ([32] ++ (dotX x.2.1 ++ ([32, 91] ++ (textL x.2.2.1 ++ ([93, 32] ++ valW x.2.2.2.1 x.2.2.2.2)))))
def textI (x : Item) : List Int := if itemB x then itemTx x else []
theorem dot_right {d : Dot} (h : goodB d = true) : rightB [(d.1, d.2, d.2)] = true := right_iff.2 (Rt.nil.cons (good_run h) (fun x h => nomatch h))
theorem dotX_dec {d : Dot} (h : goodB d = true) : dotX d = decL d.1.toNat ++ [58] ++ decL d.2.toNat := by
  unfold dotX textL
  rw [dot_right h, if_pos rfl, if_neg (by simp)]
  show spc [runW (d.1, d.2, d.2)] = _
  have : runW (d.1, d.2, d.2) = decL d.1.toNat ++ [58] ++ decL d.2.toNat := by
    unfold runW; dsimp only
    rw [if_neg (Int.lt_irrefl _), List.append_nil]
  rw [this]
  simp [spc, spT]
theorem text_okB (c : List Run) : okB (textL c) ∧ (93 : Int) ∉ textL c ∧ (91 : Int) ∉ textL c := by
  unfold textL
  split
  · split
    · exact ⟨fun c hc => by rcases List.mem_singleton.1 hc with rfl; omega, by decide, by decide⟩
    · have hfree : ∀ z : Int, isD z = false → z ≠ 58 → z ≠ 45 → z ≠ 32 → z ∉ spc (c.map runW) := fun z h1 h2 h3 h4 hm => by
        have hr : ∀ r : Run, z ∉ runW r := fun r hz => by
          unfold runW at hz
          simp only [List.mem_append, List.mem_singleton] at hz
          rcases hz with ((hz | hz) | hz) | hz
          · exact dec_free h1 hz
          · exact h2 hz
          · exact dec_free h1 hz
          · split at hz
            · simp only [List.mem_append, List.mem_singleton] at hz
              rcases hz with hz | hz
              · exact h3 hz
              · exact dec_free h1 hz
            · cases hz
        cases hc : c.map runW with
        | nil => rw [hc] at hm; cases hm
        | cons w ws =>
          rw [hc] at hm
          have hall : ∀ v, v ∈ w :: ws → z ∉ v := fun v hv => by
            rw [← hc] at hv
            obtain ⟨r, _, rfl⟩ := List.mem_map.1 hv
            exact hr r
          rcases List.mem_append.1 hm with hm | hm
          · exact hall w (List.mem_cons_self ..) hm
          · unfold spT at hm
            obtain ⟨u, hu, hzu⟩ := List.mem_flatten.1 hm
            obtain ⟨v, hv, rfl⟩ := List.mem_map.1 hu
            rcases List.mem_cons.1 hzu with rfl | hzu
            · exact h4 rfl
            · exact hall v (List.mem_cons_of_mem _ hv) hzu
      exact ⟨okB_spc _ (fun w hw => by obtain ⟨r, _, rfl⟩ := List.mem_map.1 hw; exact okB_runW r), hfree 93 (by decide) (by decide) (by decide) (by decide), hfree 91 (by decide) (by decide) (by decide) (by decide)⟩
  · exact ⟨fun c hc => (nomatch hc), by simp, by simp⟩
theorem dotX_free {d : Dot} : okB (dotX d) ∧ (91 : Int) ∉ dotX d := ⟨(text_okB _).1, (text_okB _).2.2⟩

def vHead (s : ByteArray) : ByteArray := (cutS s (strOfNums [32, 91])).1
def vRest (s : ByteArray) : ByteArray := (cutS s (strOfNums [32, 91])).2.1
def vPast (s : ByteArray) : ByteArray := (cutS (vRest s) (strOfNums [93, 32])).1
def vVal (s : ByteArray) : ByteArray := (cutS (vRest s) (strOfNums [93, 32])).2.1
def vKey (s : ByteArray) : ByteArray := (cutS (vHead s) (strOfNums [32])).1
def vDot (s : ByteArray) : ByteArray := (cutS (vHead s) (strOfNums [32])).2.1
def goneS : ByteArray := strOfNums [103, 111, 110, 101]
def dotO (l : List Run) : Dot := match l with | [] => (0, 0) | r :: _ => (r.1, r.2.1)
open Classical in
noncomputable def vItem (s : ByteArray) : Item :=
  (strOfNums (unhexL (bytesL (vKey s))), dotO (parsedL (vDot s)), parsedL (vPast s), decide (vVal s = goneS), if vVal s = goneS ∨ vVal s = strOfNums [46] then [] else unhexL (bytesL (vVal s)))
theorem valW_str {b : Bool} {v : List Int} (hv : okB v) (hb : b = true → v = []) : (strOfNums (valW b v) = goneS ↔ b = true) ∧ (b = false → (strOfNums (valW b v) = strOfNums [46] ↔ v = [])) ∧ (b = false → v ≠ [] → unhexL (bytesL (strOfNums (valW b v))) = v) := by
  have hgl : okB [103, 111, 110, 101] := fun c hc => by simp at hc; omega
  have hd : okB [46] := fun c hc => by rcases List.mem_singleton.1 hc with rfl; omega
  have hx := okB_hex v hv
  cases b with
  | true => exact ⟨⟨fun _ => rfl, fun _ => rfl⟩, fun h => Bool.noConfusion h, fun h => Bool.noConfusion h⟩
  | false =>
    by_cases h0 : v = []
    · subst h0
      refine ⟨⟨fun h => ?_, fun h => by cases h⟩, fun _ => ⟨fun _ => rfl, fun _ => rfl⟩, fun _ h => absurd rfl h⟩
      have h : strOfNums [46] = strOfNums [103, 111, 110, 101] := h
      have := congrArg bytesL h
      rw [bytes_str hd, bytes_str hgl] at this
      simp at this
    · have e : valW false v = hexL v := by unfold valW; rw [if_neg (by simp), if_neg h0]
      rw [e]
      refine ⟨⟨fun h => ?_, fun h => by cases h⟩, fun _ => ⟨fun h => ?_, fun h => absurd h h0⟩, fun _ _ => by rw [bytes_str hx, (unhex_hex hv).1]⟩
      · have := congrArg bytesL h
        unfold goneS at this
        rw [bytes_str hx, bytes_str hgl] at this
        have h3 : isH 103 = true := List.all_eq_true.1 (unhex_hex hv).2 103 (by rw [this]; simp)
        exact absurd h3 (by decide)
      · have := congrArg bytesL h
        rw [bytes_str hx, bytes_str hd] at this
        have h3 : isH 46 = true := List.all_eq_true.1 (unhex_hex hv).2 46 (by rw [this]; simp)
        exact absurd h3 (by decide)
open Classical in
theorem item_read {x : Item} (h : itemB x = true) (hv : okB x.2.2.2.2) : vItem (strOfNums (itemTx x)) = x := by
  obtain ⟨key, ⟨m, n⟩, c, b, v⟩ := x
  obtain ⟨⟨k1, k2⟩, k3, k4, ⟨k5, k6⟩, ⟨k7, k8⟩, k9, k10⟩ := item_ok h
  have hg : goodB (m, n) = true := decide_eq_true ⟨k5, k6, k7, k8⟩
  have hkb := bytesL_ok key
  obtain ⟨t1, t2, t3⟩ := text_okB c
  obtain ⟨d1, d2⟩ := dotX_free (d := (m, n))
  have hhx := okB_hex _ hkb
  have o32 : okB [32] := fun c hc => by rcases List.mem_singleton.1 hc with rfl; omega
  have hhead : okB (hexL (bytesL key) ++ ([32] ++ dotX (m, n))) := okB_app hhx (okB_app o32 d1)
  have hfree : (91 : Int) ∉ hexL (bytesL key) ++ ([32] ++ dotX (m, n)) := by
    simp only [List.mem_append, List.mem_singleton, not_or]
    exact ⟨hex_free hkb (by decide), by decide, d2⟩
  have e0 : itemTx (key, (m, n), c, b, v) = (hexL (bytesL key) ++ ([32] ++ dotX (m, n))) ++ [32, 91] ++ (textL c ++ [93, 32] ++ valW b v) := by
    unfold itemTx; simp only [List.append_assoc]
  have c1 := cut_two (x := 32) (y := 91) (b := textL c ++ [93, 32] ++ valW b v) hhead (by omega) (by omega) (.inr ⟨hfree, by decide⟩)
  have c2 := cut_two (x := 93) (y := 32) (b := valW b v) t1 (by omega) (by omega) (.inl t2)
  have c3 := cut_at (c := 32) (b := dotX (m, n)) hhx (by omega) (by omega) (hex_free hkb (by decide))
  rw [List.append_assoc] at c3
  obtain ⟨w1, w2, w3⟩ := valW_str (b := b) hv (fun hb => List.length_eq_zero_iff.1 (k4 hb))
  have hp := (parsed_text k9).2
  have hd := (parsed_text (dot_right hg)).2
  have hVal : vVal (strOfNums (itemTx (key, (m, n), c, b, v))) = strOfNums (valW b v) := by unfold vVal vRest; rw [e0, c1]; dsimp only; rw [c2]
  have hPast : vPast (strOfNums (itemTx (key, (m, n), c, b, v))) = strOfNums (textL c) := by unfold vPast vRest; rw [e0, c1]; dsimp only; rw [c2]
  have hKey : vKey (strOfNums (itemTx (key, (m, n), c, b, v))) = strOfNums (hexL (bytesL key)) := by unfold vKey vHead; rw [e0, c1]; dsimp only; rw [c3]
  have hDot : vDot (strOfNums (itemTx (key, (m, n), c, b, v))) = strOfNums (dotX (m, n)) := by unfold vDot vHead; rw [e0, c1]; dsimp only; rw [c3]
  unfold vItem
  rw [hVal, hPast, hKey, hDot, bytes_str hhx, (unhex_hex hkb).1, str_bytesL, hp]
  have hd2 : dotO (parsedL (strOfNums (dotX (m, n)))) = (m, n) := by rw [show dotX (m, n) = textL [(m, n, n)] from rfl, hd]; rfl
  rw [hd2]
  cases b with
  | true =>
    have hv0 : v = [] := List.length_eq_zero_iff.1 (k4 rfl)
    rw [if_pos (.inl (w1.2 rfl)), decide_eq_true (w1.2 rfl), hv0]
  | false =>
    have hn : ¬ strOfNums (valW false v) = goneS := fun hh => by have := w1.1 hh; cases this
    rw [decide_eq_false hn]
    by_cases h0 : v = []
    · rw [if_pos (.inr ((w2 rfl).2 h0)), h0]
    · rw [if_neg (by
        rintro (hh | hh)
        · exact hn hh
        · exact h0 ((w2 rfl).1 hh)), w3 rfl h0]
/-- Is a text the text of the item that is read out of it? -/
def vOk (s : ByteArray) : Prop := ¬ s = ⟨#[]⟩ ∧ strOfNums (textI (vItem s)) = s
open Classical in
noncomputable def vB (s : ByteArray) : Bool := decide (vOk s)
open Classical in
noncomputable def vI (s : ByteArray) : Item := if vOk s then vItem s else zeroI
theorem itemTx_ne (x : Item) : itemTx x ≠ [] := fun h => by
  have := congrArg List.length h
  simp only [itemTx, List.length_append, List.length_cons, List.length_nil] at this
  omega
theorem okB_tx {x : Item} (hv : okB x.2.2.2.2) : okB (itemTx x) := by
  have o : ∀ l : List Int, (l.all fun c => decide (0 ≤ c ∧ c < 256)) = true → okB l := fun l h c hc => of_decide_eq_true (List.all_eq_true.1 h c hc)
  unfold itemTx
  refine okB_app (okB_hex _ (bytesL_ok _)) (okB_app (o _ (by decide)) (okB_app dotX_free.1 (okB_app (o _ (by decide)) (okB_app (text_okB _).1 (okB_app (o _ (by decide)) ?_)))))
  unfold valW
  split
  · exact o _ (by decide)
  · split
    · exact o _ (by decide)
    · exact okB_hex _ hv
/-- A text is read iff it is the text of a right item. -/
theorem vOk_iff {s : ByteArray} {x : Item} (h : itemB x = true) (hv : okB x.2.2.2.2) (he : strOfNums (itemTx x) = s) : vOk s ∧ vItem s = x := by
  have e := item_read h hv
  rw [he] at e
  refine ⟨⟨fun h0 => ?_, ?_⟩, e⟩
  · have := congrArg bytesL (he.trans h0)
    rw [bytes_str (okB_tx hv)] at this
    exact itemTx_ne x this
  · rw [e]
    unfold textI
    rw [h, if_pos rfl]; exact he
end Go.Proofs.YthmbdjhlfieldaaGreatDoor

set_option linter.unusedVariables false
set_option linter.unusedSimpArgs false
set_option maxRecDepth 100000
namespace Go.Proofs.YthmbdjhlfieldaaGreatDoor
open Go.Eng
def rPast (l : List Int) : List Int := spc (((splitL 32 l).drop 2).dropLast)
def rKey (l : List Int) : List Int := (splitL 32 l).headD []
def rDot (l : List Int) : List Int := (splitL 32 l).getD 1 []
def rVal (l : List Int) : List Int := (splitL 32 l).getLastD []
theorem spc_two (a b : List Int) (m : List (List Int)) (v : List Int) (hm : m ≠ []) : spc (a :: b :: (m ++ [v])) = a ++ ([32] ++ (b ++ ([32] ++ (spc m ++ ([32] ++ v))))) := by
  cases m with
  | nil => exact absurd rfl hm
  | cons x m => simp [spc, spT]
end Go.Proofs.YthmbdjhlfieldaaGreatDoor

set_option linter.unusedVariables false
set_option linter.unusedSimpArgs false
set_option maxRecDepth 100000
set_option maxHeartbeats 4000000
namespace Go.Proofs.YthmbdjhlfieldaaGreatDoor
open Go.Eng
@[reducible] def itextC : Ctr := {
  X := Item
  Y := Unit
  args := fun x => [itemV x]
  rw := fun _ => []
  side := fun x => itemZ x
  val := fun _ => ()
  ens := fun _ _ => True
  res := fun x _ => .v (.string (strOfNums (textI x)))
  out := fun x _ => [] }
theorem knownIt : Known Tryz.prog (gOf [(14, irightU), (43, hexesV), (45, dtextC), (44, joinC)]) :=
  known_cons ⟨iright_re iright_ok, Tryz.call14⟩ (known_cons ⟨hexes_ok, Tryz.call43⟩ (known_cons ⟨dtext_ok, Tryz.call45⟩ (known_cons ⟨sjoin_ok, Tryz.call44⟩ (known_nil _))))
theorem text_spc (x : Item) : spc [hexL (bytesL x.1), dotX x.2.1, [91] ++ textL x.2.2.1 ++ [93], valW x.2.2.2.1 x.2.2.2.2] = itemTx x := by
  unfold itemTx; simp [spc, spT]
theorem itext_ok : itextC.ok Tryz.prog 11 := by
  refine ok_of_vc (An := fun _ => anOf []) knownIt mo Tryz.func11 (by kernel_rfl) (by kernel_rfl) (fun _ _ => trivial) (fun (x : Item) hs => ?_)
  have hT : textI x = if itemB x then itemTx x else [] := rfl
  have hsp := text_spc x
  cases hi : itemB x with
  | false =>
    rw [hi, if_neg (by simp)] at hT
    have hnil : strOfNums (textI x) = ⟨#[]⟩ := by rw [hT]; rfl
    obtain ⟨key, ⟨m, n⟩, c, b, v⟩ := x
    obtain ⟨hs, hv⟩ := hs
    have lm := And.intro hi hnil
    have ck : Hc irightU (key, (m, n), c, b, v) True := .mk trivial
    exact G1
  | true =>
    rw [hi, if_pos rfl] at hT
    obtain ⟨key, ⟨m, n⟩, c, b, v⟩ := x
    obtain ⟨hs, hv⟩ := hs
    obtain ⟨⟨k1, k2⟩, k3, k4, ⟨k5, k6⟩, ⟨k7, k8⟩, k9, k10⟩ := item_ok hi
    have hv : okB v := hv
    have hkb := bytesL_ok key
    have hkl := bytesL_length key
    have hxl := hexL_len (bytesL key)
    have hvl := hexL_len v
    have htx : (textL c).length ≤ 100000 := by
      by_cases h0 : c = []
      · subst h0
        show (1 : Nat) ≤ _; omega
      · have ht : textL c = spc (c.map runW) := by unfold textL; rw [k9, if_neg h0]; rfl
        rw [ht]
        have := spc_len (c.map runW) (fun w hw => by obtain ⟨r, hr, rfl⟩ := List.mem_map.1 hw; exact runW_len ((right_iff.1 k9).all r hr))
        rw [List.length_map] at this
        omega
    have hg : goodB (m, n) = true := decide_eq_true ⟨k5, k6, k7, k8⟩
    have hdl : (dotX (m, n)).length ≤ 100 := by
      have h1 := decL_len 12 m.toNat (by omega)
      have h2 := decL_len 12 n.toNat (by omega)
      rw [dotX_dec hg]
      simp only [List.length_append, List.length_singleton]
      omega
    have hz := str_size (textL c)
    have b1 : (⟨#[91]⟩ : ByteArray) ++ strOfNums (textL c) = strOfNums ([91] ++ textL c) := by rw [← str_cat]; rfl
    have b2 : strOfNums ([91] ++ textL c) ++ (⟨#[93]⟩ : ByteArray) = strOfNums ([91] ++ textL c ++ [93]) := by rw [← str_cat ([91] ++ textL c) [93]]; rfl
    have b3 : (strOfNums ([91] ++ textL c)).size = (textL c).length + 1 := by rw [str_size]; simp
    have hj : ∀ D : ByteArray, D = strOfNums (valW b v) → joinS [strOfNums (hexL (bytesL key)), strOfNums (textL [(m, n, n)]), strOfNums ([91] ++ textL c ++ [93]), D] ⟨#[32]⟩ = strOfNums (itemTx (key, (m, n), c, b, v)) := fun D hD => by
      rw [hD, ← hsp]
      exact join_spc [hexL (bytesL key), dotX (m, n), [91] ++ textL c ++ [93], valW b v]
    have hvw : (valW b v).length ≤ 200 := by
      unfold valW
      split
      · simp
      · split
        · simp
        · omega
    have hjl : (strOfNums (itemTx (key, (m, n), c, b, v))).size ≤ 140737488355328 := by
      rw [str_size]
      simp only [itemTx, List.length_append, List.length_cons, List.length_nil]
      omega
    clear hsp hs
    cases b with
    | true =>
      have hj := hj ⟨#[103, 111, 110, 101]⟩ rfl
      have lm := And.intro hi (And.intro b1 (And.intro b2 (And.intro b3 hz)))
      have ck : Hc irightU (key, (m, n), c, true, v) (Hc hexesV v True) := .mk (.mk trivial)
      (refine Z ?_; repeat' (first | exact .intro | ((first | refine B1 (fun h => ?_) fun h => ?_ | refine B2 fun y he he' hy => ?_ | refine B3 fun y he hy => ?_ | refine B4 fun y hy => ?_ | refine B5 fun ck => ?_ | fail) <;> refine Z ?_)))
      refine Ask.mk ⟨hv, by show (v : List Int).length ≤ 100000000000; omega⟩ ?_
      have ck : Hc hexesV (bytesL key) True := .mk trivial
      (refine Z ?_; repeat' (first | exact .intro | ((first | refine B1 (fun h => ?_) fun h => ?_ | refine B2 fun y he he' hy => ?_ | refine B3 fun y he hy => ?_ | refine B4 fun y hy => ?_ | refine B5 fun ck => ?_ | fail) <;> refine Z ?_)))
      refine Ask.mk ⟨hkb, by show (bytesL key).length ≤ 100000000000; omega⟩ ?_
      have ck : Hc dtextC [(m, n, n)] (Hc dtextC c True) := .mk (.mk trivial)
      (refine Z ?_; repeat' (first | exact .intro | ((first | refine B1 (fun h => ?_) fun h => ?_ | refine B2 fun y he he' hy => ?_ | refine B3 fun y he hy => ?_ | refine B4 fun y hy => ?_ | refine B5 fun ck => ?_ | fail) <;> refine Z ?_)))
      refine Ask.mk (by show 1 + (strOfNums (textL c)).size ≤ 9223372036854775807; omega) ?_
      (refine Z ?_; repeat' (first | exact .intro | ((first | refine B1 (fun h => ?_) fun h => ?_ | refine B2 fun y he he' hy => ?_ | refine B3 fun y he hy => ?_ | refine B4 fun y hy => ?_ | refine B5 fun ck => ?_ | fail) <;> refine Z ?_)))
      refine Ask.mk (by rw [b1, b3]; show (textL c).length + 1 + 1 ≤ 9223372036854775807; omega) ?_
      (refine Z ?_; repeat' (first | exact .intro | ((first | refine B1 (fun h => ?_) fun h => ?_ | refine B2 fun y he he' hy => ?_ | refine B3 fun y he hy => ?_ | refine B4 fun y hy => ?_ | refine B5 fun ck => ?_ | fail) <;> refine Z ?_)))
      rw [b1, b2]
      refine CallP.mk (C := joinC) ⟨[strOfNums (hexL (bytesL key)), strOfNums (textL [(m, n, n)]), strOfNums ([91] ++ textL c ++ [93]), ⟨#[103, 111, 110, 101]⟩], ⟨#[32]⟩⟩ ?_
      (refine Zn ?_; repeat' (first | exact .intro | ((first | refine B1 (fun h => ?_) fun h => ?_ | refine B2 fun y he he' hy => ?_ | refine B3 fun y he hy => ?_ | refine B4 fun y hy => ?_ | refine B5 fun ck => ?_ | fail) <;> refine Zn ?_)))
      refine AskL.mk (by dsimp only [conj]; (repeat' apply And.intro) <;> rfl) ?_
      refine Ask.mk ⟨by show 4 ≤ 140737488355328; omega, by dsimp only; rw [hj]; exact hjl⟩ ?_
      (refine Zn ?_; repeat' (first | exact .intro | ((first | refine B1 (fun h => ?_) fun h => ?_ | refine B2 fun y he he' hy => ?_ | refine B3 fun y he hy => ?_ | refine B4 fun y hy => ?_ | refine B5 fun ck => ?_ | fail) <;> refine Zn ?_)))
      refine AskL.mk ?_ trivial
      dsimp only [conj]
      rw [hj, hT]
    | false =>
      by_cases h0 : v = []
      · have hl0 : v.length = 0 := by rw [h0]; rfl
        have hj := hj ⟨#[46]⟩ (by unfold valW; rw [if_neg (by simp), if_pos h0]; rfl)
        have lm := And.intro hi (And.intro b1 (And.intro b2 (And.intro b3 hz)))
        have ck : Hc irightU (key, (m, n), c, false, v) (Hc hexesV v True) := .mk (.mk trivial)
        (refine Z ?_; repeat' (first | exact .intro | ((first | refine B1 (fun h => ?_) fun h => ?_ | refine B2 fun y he he' hy => ?_ | refine B3 fun y he hy => ?_ | refine B4 fun y hy => ?_ | refine B5 fun ck => ?_ | fail) <;> refine Z ?_)))
        refine Ask.mk ⟨hv, by show (v : List Int).length ≤ 100000000000; omega⟩ ?_
        have ck : Hc hexesV (bytesL key) True := .mk trivial
        (refine Z ?_; repeat' (first | exact .intro | ((first | refine B1 (fun h => ?_) fun h => ?_ | refine B2 fun y he he' hy => ?_ | refine B3 fun y he hy => ?_ | refine B4 fun y hy => ?_ | refine B5 fun ck => ?_ | fail) <;> refine Z ?_)))
        refine Ask.mk ⟨hkb, by show (bytesL key).length ≤ 100000000000; omega⟩ ?_
        have ck : Hc dtextC [(m, n, n)] (Hc dtextC c True) := .mk (.mk trivial)
        (refine Z ?_; repeat' (first | exact .intro | ((first | refine B1 (fun h => ?_) fun h => ?_ | refine B2 fun y he he' hy => ?_ | refine B3 fun y he hy => ?_ | refine B4 fun y hy => ?_ | refine B5 fun ck => ?_ | fail) <;> refine Z ?_)))
        refine Ask.mk (by show 1 + (strOfNums (textL c)).size ≤ 9223372036854775807; omega) ?_
        (refine Z ?_; repeat' (first | exact .intro | ((first | refine B1 (fun h => ?_) fun h => ?_ | refine B2 fun y he he' hy => ?_ | refine B3 fun y he hy => ?_ | refine B4 fun y hy => ?_ | refine B5 fun ck => ?_ | fail) <;> refine Z ?_)))
        refine Ask.mk (by rw [b1, b3]; show (textL c).length + 1 + 1 ≤ 9223372036854775807; omega) ?_
        (refine Z ?_; repeat' (first | exact .intro | ((first | refine B1 (fun h => ?_) fun h => ?_ | refine B2 fun y he he' hy => ?_ | refine B3 fun y he hy => ?_ | refine B4 fun y hy => ?_ | refine B5 fun ck => ?_ | fail) <;> refine Z ?_)))
        rw [b1, b2]
        refine CallP.mk (C := joinC) ⟨[strOfNums (hexL (bytesL key)), strOfNums (textL [(m, n, n)]), strOfNums ([91] ++ textL c ++ [93]), ⟨#[46]⟩], ⟨#[32]⟩⟩ ?_
        (refine Zn ?_; repeat' (first | exact .intro | ((first | refine B1 (fun h => ?_) fun h => ?_ | refine B2 fun y he he' hy => ?_ | refine B3 fun y he hy => ?_ | refine B4 fun y hy => ?_ | refine B5 fun ck => ?_ | fail) <;> refine Zn ?_)))
        refine AskL.mk (by dsimp only [conj]; (repeat' apply And.intro) <;> rfl) ?_
        refine Ask.mk ⟨by show 4 ≤ 140737488355328; omega, by dsimp only; rw [hj]; exact hjl⟩ ?_
        (refine Zn ?_; repeat' (first | exact .intro | ((first | refine B1 (fun h => ?_) fun h => ?_ | refine B2 fun y he he' hy => ?_ | refine B3 fun y he hy => ?_ | refine B4 fun y hy => ?_ | refine B5 fun ck => ?_ | fail) <;> refine Zn ?_)))
        refine AskL.mk ?_ trivial
        dsimp only [conj]
        rw [hj, hT]
      · have hvp : ¬ v.length = 0 := fun h => h0 (List.length_eq_zero_iff.1 h)
        have hj := hj (strOfNums (hexL v)) (by unfold valW; rw [if_neg (by simp), if_neg h0])
        have lm := And.intro hi (And.intro b1 (And.intro b2 (And.intro b3 hz)))
        have ck : Hc irightU (key, (m, n), c, false, v) (Hc hexesV v True) := .mk (.mk trivial)
        (refine Z ?_; repeat' (first | exact .intro | ((first | refine B1 (fun h => ?_) fun h => ?_ | refine B2 fun y he he' hy => ?_ | refine B3 fun y he hy => ?_ | refine B4 fun y hy => ?_ | refine B5 fun ck => ?_ | fail) <;> refine Z ?_)))
        refine Ask.mk ⟨hv, by show (v : List Int).length ≤ 100000000000; omega⟩ ?_
        have ck : Hc hexesV (bytesL key) True := .mk trivial
        (refine Z ?_; repeat' (first | exact .intro | ((first | refine B1 (fun h => ?_) fun h => ?_ | refine B2 fun y he he' hy => ?_ | refine B3 fun y he hy => ?_ | refine B4 fun y hy => ?_ | refine B5 fun ck => ?_ | fail) <;> refine Z ?_)))
        refine Ask.mk ⟨hkb, by show (bytesL key).length ≤ 100000000000; omega⟩ ?_
        have ck : Hc dtextC [(m, n, n)] (Hc dtextC c True) := .mk (.mk trivial)
        (refine Z ?_; repeat' (first | exact .intro | ((first | refine B1 (fun h => ?_) fun h => ?_ | refine B2 fun y he he' hy => ?_ | refine B3 fun y he hy => ?_ | refine B4 fun y hy => ?_ | refine B5 fun ck => ?_ | fail) <;> refine Z ?_)))
        refine Ask.mk (by show 1 + (strOfNums (textL c)).size ≤ 9223372036854775807; omega) ?_
        (refine Z ?_; repeat' (first | exact .intro | ((first | refine B1 (fun h => ?_) fun h => ?_ | refine B2 fun y he he' hy => ?_ | refine B3 fun y he hy => ?_ | refine B4 fun y hy => ?_ | refine B5 fun ck => ?_ | fail) <;> refine Z ?_)))
        refine Ask.mk (by rw [b1, b3]; show (textL c).length + 1 + 1 ≤ 9223372036854775807; omega) ?_
        (refine Z ?_; repeat' (first | exact .intro | ((first | refine B1 (fun h => ?_) fun h => ?_ | refine B2 fun y he he' hy => ?_ | refine B3 fun y he hy => ?_ | refine B4 fun y hy => ?_ | refine B5 fun ck => ?_ | fail) <;> refine Z ?_)))
        rw [b1, b2]
        refine CallP.mk (C := joinC) ⟨[strOfNums (hexL (bytesL key)), strOfNums (textL [(m, n, n)]), strOfNums ([91] ++ textL c ++ [93]), strOfNums (hexL v)], ⟨#[32]⟩⟩ ?_
        (refine Zn ?_; repeat' (first | exact .intro | ((first | refine B1 (fun h => ?_) fun h => ?_ | refine B2 fun y he he' hy => ?_ | refine B3 fun y he hy => ?_ | refine B4 fun y hy => ?_ | refine B5 fun ck => ?_ | fail) <;> refine Zn ?_)))
        refine AskL.mk (by dsimp only [conj]; (repeat' apply And.intro) <;> rfl) ?_
        refine Ask.mk ⟨by show 4 ≤ 140737488355328; omega, by dsimp only; rw [hj]; exact hjl⟩ ?_
        (refine Zn ?_; repeat' (first | exact .intro | ((first | refine B1 (fun h => ?_) fun h => ?_ | refine B2 fun y he he' hy => ?_ | refine B3 fun y he hy => ?_ | refine B4 fun y hy => ?_ | refine B5 fun ck => ?_ | fail) <;> refine Zn ?_)))
        refine AskL.mk ?_ trivial
        dsimp only [conj]
        rw [hj, hT]
end Go.Proofs.YthmbdjhlfieldaaGreatDoor

set_option linter.unusedVariables false
set_option linter.unusedSimpArgs false
set_option maxRecDepth 100000
set_option maxHeartbeats 4000000
namespace Go.Proofs.YthmbdjhlfieldaaGreatDoor
open Go.Eng
theorem riabove_ok : iaboveC.ok Tryz.prog 22 := by
  refine ok_of_vc (An := fun _ => anOf []) knownAb mo Tryz.func22 (by kernel_rfl) (by kernel_rfl) (fun _ _ => trivial) (fun (x : Item × Item) hs => ?_)
  obtain ⟨a, b⟩ := x
  have hA := above_eq a b
  have hk := str_beq a.1 b.1
  have hla : itemB a = true → a.2.2.1.length ≤ 274877906944 := fun h => by
    obtain ⟨k, ⟨m, n⟩, c, g, v⟩ := a
    have := (item_ok h).hl
    exact Nat.le_trans this (by omega)
  obtain ⟨⟨h1, h2⟩, ⟨h3, h4⟩⟩ := hs
  cases e2 : itemB a with
  | false =>
    rw [e2, Bool.false_and, Bool.and_false] at hA
    obtain ⟨k, ⟨m, n⟩, c, g, v⟩ := a
    obtain ⟨k', ⟨m', n'⟩, c', g', v'⟩ := b
    clear hk
    have lm := e2
    have ck : Hc irightU (k, (m, n), c, g, v) True := .mk trivial
    exact G1
  | true =>
    rw [e2, Bool.true_and] at hA
    have hla := hla e2
    cases e3 : itemB b with
    | false =>
      rw [e3, Bool.false_and, Bool.and_false] at hA
      obtain ⟨k, ⟨m, n⟩, c, g, v⟩ := a
      obtain ⟨k', ⟨m', n'⟩, c', g', v'⟩ := b
      clear hk
      have lm := And.intro e2 e3
      have ck : Hc irightU (k, (m, n), c, g, v) (Hc irightU (k', (m', n'), c', g', v') True) := .mk (.mk trivial)
      exact G1
    | true =>
      rw [e3, Bool.true_and] at hA
      by_cases e1 : a.1 = b.1
      · rw [decide_eq_true e1] at hk hA
        rw [Bool.true_and] at hA
        obtain ⟨k, ⟨m, n⟩, c, g, v⟩ := a
        obtain ⟨k', ⟨m', n'⟩, c', g', v'⟩ := b
        have hla : c.length ≤ 274877906944 := hla
        have lm := And.intro e2 (And.intro e3 hk)
        have ck : Hc irightU (k, (m, n), c, g, v) (Hc irightU (k', (m', n'), c', g', v') (Hc dhasC (c, (m', n')) True)) := .mk (.mk (.mk trivial))
        exact G1
      · rw [decide_eq_false e1] at hk hA
        rw [Bool.false_and] at hA
        obtain ⟨k, ⟨m, n⟩, c, g, v⟩ := a
        obtain ⟨k', ⟨m', n'⟩, c', g', v'⟩ := b
        have lm := And.intro e2 (And.intro e3 hk)
        have ck : Hc irightU (k, (m, n), c, g, v) (Hc irightU (k', (m', n'), c', g', v') True) := .mk (.mk trivial)
        exact G1
end Go.Proofs.YthmbdjhlfieldaaGreatDoor

set_option linter.unusedVariables false
set_option linter.unusedSimpArgs false
set_option maxRecDepth 100000
set_option maxHeartbeats 4000000
namespace Go.Proofs.YthmbdjhlfieldaaGreatDoor
open Go.Eng
end Go.Proofs.YthmbdjhlfieldaaGreatDoor

set_option linter.unusedVariables false
set_option linter.unusedSimpArgs false
set_option maxRecDepth 100000
set_option maxHeartbeats 4000000
namespace Go.Proofs.YthmbdjhlfieldaaGreatDoor
open Go.Eng
theorem cb_range : ∀ a b : List UInt8, -1 ≤ Lib.compareBytes a b ∧ Lib.compareBytes a b ≤ 1
  | [], [] => by decide
  | [], _ :: _ => by simp [Lib.compareBytes]
  | _ :: _, [] => by simp [Lib.compareBytes]
  | a :: xs, b :: ys => by
    unfold Lib.compareBytes
    by_cases h1 : a < b
    · rw [if_pos h1]; decide
    · rw [if_neg h1]
      by_cases h2 : b < a
      · rw [if_pos h2]; decide
      · rw [if_neg h2]; exact cb_range xs ys
@[reducible] def ricmpC : Ctr := {
  X := Item × Item
  Y := Unit
  args := fun x => [itemV x.1, itemV x.2]
  rw := fun _ => []
  side := fun x => (itemZ x.1 ∧ itemB x.1 = true) ∧ (itemZ x.2 ∧ itemB x.2 = true)
  val := fun _ => ()
  ens := fun _ _ => True
  res := fun x _ => .v (.int .i64 (cmpIt x.1 x.2))
  out := fun x _ => [] }
theorem knownIc : Known Tryz.prog (gOf [(29, ribytesV)]) :=
  known_cons ⟨ribytesV_ok, Tryz.call29⟩ (known_nil _)
theorem ricmp_ok : ricmpC.ok Tryz.prog 20 := by
  refine ok_of_vc (An := fun _ => anOf []) knownIc mo Tryz.func20 (by kernel_rfl) (by kernel_rfl) (fun _ _ => trivial) (fun (x : Item × Item) hs => ?_)
  obtain ⟨a, b⟩ := x
  obtain ⟨⟨h1, i1⟩, ⟨h2, i2⟩⟩ := hs
  have hT : cmpIt a b = cmpK (keyI a) (keyI b) := by unfold cmpIt; rw [i1, i2]; rfl
  have hinj : (strOfNums (itemBy a)).data.toList = (strOfNums (itemBy b)).data.toList → a.1.data.toList = b.1.data.toList ∧ a.2.1.1 = b.2.1.1 ∧ a.2.1.2 = b.2.1.2 := fun h => by
    have h5 : strOfNums (itemBy a) = strOfNums (itemBy b) := ByteArray.ext (Array.toList_inj.1 h)
    have h6 := congrArg bytesL h5
    rw [bytes_str (okB_by i1 h1.2), bytes_str (okB_by i2 h2.2)] at h6
    have e : a = b := itemBy_inj i1 i2 h6
    rw [e]; exact ⟨rfl, rfl, rfl⟩
  obtain ⟨k, ⟨m, n⟩, c, g, v⟩ := a
  obtain ⟨k', ⟨m', n'⟩, c', g', v'⟩ := b
  have lm := i1
  have ck : Hc ribytesV (k, (m, n), c, g, v) (Hc ribytesV (k', (m', n'), c', g', v') True) := .mk (.mk trivial)
  (refine Z ?_; repeat' (first | exact .intro | ((first | refine B1 (fun h => ?_) fun h => ?_ | refine B2 fun y he he' hy => ?_ | refine B3 fun y he hy => ?_ | refine B4 fun y hy => ?_ | refine B5 fun ck => ?_ | fail) <;> refine Z ?_)))
  all_goals
    refine AskL.mk ?_ trivial
    dsimp only [conj]
    refine Eq.trans ?_ hT.symm
    have e : cmpK (keyI (k, (m, n), c, g, v)) (keyI (k', (m', n'), c', g', v')) = lexO (Lib.compareBytes k.data.toList k'.data.toList) (lexO (cmpI m m') (lexO (cmpI n n') (Lib.compareBytes (strOfNums (itemBy (k, (m, n), c, g, v))).data.toList (strOfNums (itemBy (k', (m', n'), c', g', v'))).data.toList))) := rfl
    rw [e]
    clear e hT lm h1 i1 h2 i2
    have r1 := cb_range k.data.toList k'.data.toList
    have r2 := cb_range (strOfNums (itemBy (k, (m, n), c, g, v))).data.toList (strOfNums (itemBy (k', (m', n'), c', g', v'))).data.toList
    simp only [ByteArray.toList_eq, bl_cb, ← cb_zero, decide_eq_true_eq, decide_eq_false_iff_not] at *
    generalize Lib.compareBytes k.data.toList k'.data.toList = p at *
    generalize Lib.compareBytes (strOfNums (itemBy (k, (m, n), c, g, v))).data.toList (strOfNums (itemBy (k', (m', n'), c', g', v'))).data.toList = q at *
    unfold lexO cmpI
    (repeat' split) <;> omega
end Go.Proofs.YthmbdjhlfieldaaGreatDoor

set_option linter.unusedVariables false
set_option linter.unusedSimpArgs false
set_option maxRecDepth 100000
namespace Go.Proofs.YthmbdjhlfieldaaGreatDoor
open Go.Eng
@[reducible] def scompC : Ctr := {
  X := StrX
  Y := Unit
  args := fun x => [.v (.string x.s), .v (.string x.t)]
  rw := fun _ => []
  side := fun _ => True
  val := fun _ => ()
  ens := fun _ _ => True
  res := fun x _ => .v (.int .i64 (Lib.compareBytes x.s.data.toList x.t.data.toList))
  out := fun _ _ => [] }
theorem scomp_ok : scompC.ok Tryz.prog 56 := by
  refine ok_of_walk (fun _ => rfl) (fun _ => rfl) (fun x hs => ⟨trivial, fun E w vals hsz hv hg hI => ?_⟩)
  obtain ⟨s, c⟩ := x
  rw [vals_two hsz, sat_v (hv 0 _ rfl), sat_v (hv 1 _ rfl)]
  refine (Tryz.strings_Compare s c w).mono ?_
  rintro e w' ⟨rfl, rfl⟩
  exact ⟨_, rfl, .v _, .refl _ _, fun h => h.elim⟩
end Go.Proofs.YthmbdjhlfieldaaGreatDoor

set_option linter.unusedVariables false
set_option linter.unusedSimpArgs false
set_option maxRecDepth 100000
namespace Go.Proofs.YthmbdjhlfieldaaGreatDoor
open Go.Eng
theorem run_bytesRo {E : Env} {w : World} {b : Bool} {xs : List Int} {v : Value} {P : Program} (h : Sat E w (.ro b (.int .u8) xs) v) :
    (Extern.Bytes.bytesOf v).run P w = .ok (strOfNums xs) w := by
  have he : ∀ zs : List Int, (⟨ByteArray.empty.data ++ (Lib.bytesOf zs).toArray⟩ : ByteArray) = strOfNums zs := fun zs => by
    apply ByteArray.ext
    have h1 := Lib.strOfNums_toList zs
    rw [ByteArray.toList_eq] at h1
    rw [← h1]
    simp
  rcases sat_ro h with ⟨rfl, A, c, rfl⟩ | ⟨k, o, c, rfl, h2, h3, h4⟩
  · cases A with
    | none => rfl
    | some a => rfl
  · have hl := Lib.run_loadBytesX (P := P) w xs ⟨k, o, none⟩ .empty (fun j x hj => by
      obtain ⟨u, hu, hs⟩ := h4 j x 0 (.v (.int .u8 x)) hj rfl
      rw [sat_v hs] at hu
      by_cases hj0 : j = 0
      · subst hj0; simpa [Ty.size, Addr.add] using hu
      · simpa [Ty.size, Addr.add, hj0] using hu)
    rw [he] at hl
    exact hl
@[reducible] def bcmpC : Ctr := {
  X := List Int × List Int
  Y := Unit
  args := fun x => [.ro true (.int .u8) x.1, .ro true (.int .u8) x.2]
  rw := fun _ => []
  side := fun _ => True
  val := fun _ => ()
  ens := fun _ _ => True
  res := fun x _ => .v (.int .i64 (Lib.compareBytes (strOfNums x.1).data.toList (strOfNums x.2).data.toList))
  out := fun _ _ => [] }
theorem run_bcmp {P : Program} {w : World} {v u : Value} {A B : ByteArray} (h1 : (Extern.Bytes.bytesOf v).run P w = .ok A w) (h2 : (Extern.Bytes.bytesOf u).run P w = .ok B w) :
    (Extern.BytealgCompare.compare #[v, u]).run P w = .ok (.int .i64 (Lib.compareBytes A.data.toList B.data.toList)) w := by
  change Sem.run P (do pure (goInt (Extern.BytealgCompare.cmp (← Extern.Bytes.bytesOf v) (← Extern.Bytes.bytesOf u)))) w = _
  simp only [Sem.run_bind, h1, h2, Sem.run_pure, Result.andThen]
  rw [Lib.cmp_eq]
  rfl
theorem bcmp_ok : bcmpC.okV Tryz.prog 98 := by
  refine okV_of_run (fun _ => rfl) (fun _ => rfl) (fun x _ => ⟨trivial, fun E w vals hsz hv => ?_⟩)
  rw [vals_two hsz]
  have h1 := run_bytesRo (P := Tryz.prog) (hv 0 _ rfl)
  have h2 := run_bytesRo (P := Tryz.prog) (hv 1 _ rfl)
  refine ⟨.int .i64 (Lib.compareBytes (strOfNums x.1).data.toList (strOfNums x.2).data.toList), ?_, .v _⟩
  rw [run_callFunc_extern Tryz.func98 (by kernel_rfl) (by kernel_rfl) (by kernel_rfl) (e := Extern.BytealgCompare.compare) (by kernel_rfl), run_bcmp h1 h2]
  rfl
theorem bodyBcmp : bodyB Tryz.prog 98 = false := by kernel_rfl
theorem knownBcmp : Known Tryz.prog (gOf [(98, bcmpC)]) := known_ext bodyBcmp bcmp_ok (known_nil _)
theorem bcompare_ok : bcmpC.ok Tryz.prog 58 := by
  refine ok_of_vc (An := fun _ => anOf []) knownBcmp mo Tryz.func58 (by kernel_rfl) (by kernel_rfl) (fun _ _ => trivial) (fun (x : List Int × List Int) hs => ?_)
  obtain ⟨a, b⟩ := x
  have ck : Hc bcmpC (a, b) True := .mk trivial
  exact G1
end Go.Proofs.YthmbdjhlfieldaaGreatDoor

set_option linter.unusedVariables false
set_option linter.unusedSimpArgs false
set_option maxRecDepth 100000
set_option maxHeartbeats 4000000
namespace Go.Proofs.YthmbdjhlfieldaaGreatDoor
open Go.Eng
@[reducible] def ibytesF : Ctr := { ibytesV with res := fun x _ => .ro false (.int .u8) (itemBs x), out := fun _ _ => [] }
theorem ibytesF_ok : ibytesF.ok Tryz.prog 16 := ctr_freeze (C := ibytesV) (fun _ => rfl) (fun _ => rfl) ibytesV_ok
@[reducible] def icmpC : Ctr := {
  X := Item × Item
  Y := Unit
  args := fun x => [itemV x.1, itemV x.2]
  rw := fun _ => []
  side := fun x => itemL x.1 ∧ itemL x.2
  val := fun _ => ()
  ens := fun _ _ => True
  res := fun x _ => .v (.int .i64 (cmpIt x.1 x.2))
  out := fun x _ => [] }
theorem knownIm2 : Known Tryz.prog (gOf [(14, irightU), (56, scompC), (57, cmpC), (16, ibytesF), (58, bcmpC), (55, orC)]) :=
  known_cons ⟨iright_re iright_ok, Tryz.call14⟩ (known_cons ⟨scomp_ok, Tryz.call56⟩ (known_cons ⟨cmp_ok, Tryz.call57⟩ (known_cons ⟨ibytesF_ok, Tryz.call16⟩ (known_cons ⟨bcompare_ok, Tryz.call58⟩ (known_cons ⟨or_ok, Tryz.call55⟩ (known_nil _))))))
theorem orL_lex (p q r s : Int) : orL [p, q, r, s] = lexO p (lexO q (lexO r s)) := by
  unfold lexO
  simp only [orL]
  (repeat' split) <;> omega
theorem icmp_ok : icmpC.ok Tryz.prog 18 := by
  refine ok_of_vc (An := fun _ => anOf []) knownIm2 mo Tryz.func18 (by kernel_rfl) (by kernel_rfl) (fun _ _ => trivial) (fun (x : Item × Item) hs => ?_)
  obtain ⟨a, b⟩ := x
  have hT : cmpIt a b = if itemB a && itemB b then cmpK (keyI a) (keyI b) else 0 := rfl
  have hba : itemBs a = if itemB a = true then itemBy a else [] := rfl
  have hbb : itemBs b = if itemB b = true then itemBy b else [] := rfl
  obtain ⟨h1, h2⟩ := hs
  cases i1 : itemB a with
  | false =>
    rw [i1, Bool.false_and, if_neg (by simp)] at hT
    obtain ⟨k, ⟨m, n⟩, c, g, v⟩ := a
    obtain ⟨k', ⟨m', n'⟩, c', g', v'⟩ := b
    have lm := And.intro i1 hT
    have ck : Hc irightU (k, (m, n), c, g, v) True := .mk trivial
    exact G1
  | true =>
    cases i2 : itemB b with
    | false =>
      rw [i1, i2, Bool.true_and, if_neg (by simp)] at hT
      obtain ⟨k, ⟨m, n⟩, c, g, v⟩ := a
      obtain ⟨k', ⟨m', n'⟩, c', g', v'⟩ := b
      have lm := And.intro i1 (And.intro i2 hT)
      have ck : Hc irightU (k, (m, n), c, g, v) (Hc irightU (k', (m', n'), c', g', v') True) := .mk (.mk trivial)
      exact G1
    | true =>
      rw [i1, i2, Bool.true_and, if_pos rfl] at hT
      rw [i1, if_pos rfl] at hba
      rw [i2, if_pos rfl] at hbb
      obtain ⟨k, ⟨m, n⟩, c, g, v⟩ := a
      obtain ⟨k', ⟨m', n'⟩, c', g', v'⟩ := b
      have lm := And.intro i1 i2
      have ck : Hc irightU (k, (m, n), c, g, v) (Hc irightU (k', (m', n'), c', g', v') (Hc scompC ⟨k, k'⟩ (Hc cmpC (m, m') (Hc cmpC (n, n') (Hc ibytesF (k, (m, n), c, g, v) (Hc ibytesF (k', (m', n'), c', g', v') (Hc bcmpC (itemBs (k, (m, n), c, g, v), itemBs (k', (m', n'), c', g', v')) (Hc orC [Lib.compareBytes k.data.toList k'.data.toList, cmpI m m', cmpI n n', Lib.compareBytes (strOfNums (itemBs (k, (m, n), c, g, v))).data.toList (strOfNums (itemBs (k', (m', n'), c', g', v'))).data.toList] True)))))))) := .mk (.mk (.mk (.mk (.mk (.mk (.mk (.mk (.mk trivial))))))))
      (refine Z ?_; repeat' (first | exact .intro | ((first | refine B1 (fun h => ?_) fun h => ?_ | refine B2 fun y he he' hy => ?_ | refine B3 fun y he hy => ?_ | refine B4 fun y hy => ?_ | refine B5 fun ck => ?_ | fail) <;> refine Z ?_)))
      refine AskL.mk ?_ trivial
      dsimp only [conj]
      refine Eq.trans ?_ hT.symm
      rw [hba, hbb, orL_lex]
      rfl
end Go.Proofs.YthmbdjhlfieldaaGreatDoor
