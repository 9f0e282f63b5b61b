/- The reference's frames. -/
import Derived.Test.YtdgemajcplbllaaSipB
set_option linter.unusedVariables false
set_option linter.unusedSimpArgs false
set_option maxRecDepth 100000
namespace Go.Proofs.Ytdgemajcplbllaa
open Go.Eng

theorem bxor_range (a b : Int) : 0 ≤ bxor a b ∧ bxor a b < 18446744073709551616 := by
  unfold bxor
  rw [wrap_u64_mod]; omega
theorem hashV_nat (x : HashX) : ∃ u : Nat, hashV x = (u : Int) ∧ u < 18446744073709551616 := by
  have h : 0 ≤ hashV x ∧ hashV x < 18446744073709551616 := bxor_range _ _
  exact ⟨(hashV x).toNat, by omega, by omega⟩

structure FrmX where
  k : Int
  b : List Int
def frmL (x : FrmX) : List Int := 71 :: x.k :: (numL x.b.length ++ x.b)
def frmS (x : FrmX) : List Int := eightL 8 (hashV ⟨5, 18446744073709551610, strOfNums (frmL x)⟩).toNat
@[reducible] def rfrmC : Ctr := {
  X := FrmX
  Y := Unit
  args := fun x => [.agg [.v (.int .i64 x.k), .ro false (.int .u8) x.b]]
  rw := fun _ => []
  side := fun x => 0 ≤ x.k ∧ x.k ≤ 255 ∧ x.b.length ≤ 100000000000
  val := fun _ => ()
  ens := fun _ _ => True
  res := fun x _ => .v (.string (strOfNums (frmL x ++ frmS x)))
  out := fun _ _ => [] }
theorem knownF0 : Known Try.prog (gOf [(55, rtextC), (63, seedC), (62, hashC), (61, eightC)]) :=
  known_cons ⟨rtext_ok, Try.call55⟩ (known_cons ⟨seed_ok, Try.call63⟩ (known_cons ⟨hash_ok, Try.call62⟩ (known_cons ⟨eight_ok, Try.call61⟩ (known_nil _))))
theorem text_str2 (v : List Int) : strOfNums (numL (strOfNums v).size ++ bytesL (strOfNums v)) = strOfNums (numL v.length ++ v) := by
  rw [← str_cat, str_bytesL, str_size, str_cat]
theorem rfrm_ok : rfrmC.ok Try.prog 58 := by
  refine ok_of_vc (An := fun _ => anOf []) knownF0 mo Try.func58 (by kernel_rfl) (by kernel_rfl) (fun _ _ => trivial) (fun x hs => ?_)
  obtain ⟨k, b⟩ := x
  have hs : 0 ≤ k ∧ k ≤ 255 ∧ b.length ≤ 100000000000 := hs
  have hw8 : IntKind.u8.wrap k = k := wrap_u8 (by omega) (by omega)
  have hn := numL_le (u := b.length) (by omega)
  have hg : (⟨#[71]⟩ : ByteArray) = strOfNums [71] := rfl
  have hts := text_str2 b
  have hfl : frmL ⟨k, b⟩ = 71 :: k :: (numL b.length ++ b) := rfl
  have hfs : frmS ⟨k, b⟩ = eightL 8 (hashV ⟨5, 18446744073709551610, strOfNums (frmL ⟨k, b⟩)⟩).toNat := rfl
  obtain ⟨u, hu, hub⟩ := hashV_nat ⟨5, 18446744073709551610, strOfNums (frmL ⟨k, b⟩)⟩
  rw [hu] at hfs
  have hfs : frmS ⟨k, b⟩ = eightL 8 u := hfs
  have h8 := eightL_len 8 u
  have q1 : ((⟨#[71]⟩ : ByteArray) ++ strOfNums [IntKind.u8.wrap k]).size = 2 := by rw [hw8, hg, str_cat, str_size]; rfl
  have q2 : (strOfNums (numL (strOfNums b).size ++ bytesL (strOfNums b))).size = (numL b.length).length + b.length := by rw [hts, str_size, List.length_append]
  have q3 : ((⟨#[71]⟩ : ByteArray) ++ strOfNums [IntKind.u8.wrap k]) ++ strOfNums (numL (strOfNums b).size ++ bytesL (strOfNums b)) = strOfNums (frmL ⟨k, b⟩) := by
    rw [hts, hw8, hg, str_cat, str_cat]; rfl
  have q4 : (strOfNums (frmL ⟨k, b⟩)).size = 2 + (numL b.length).length + b.length := by
    rw [str_size, hfl]; simp only [List.length_cons, List.length_append]; omega
  have q5 : (strOfNums b).size = b.length := str_size b
  have q6 : (strOfNums [IntKind.u8.wrap k]).size = 1 := str_size _
  have q7 : (⟨#[71]⟩ : ByteArray).size = 1 := rfl
  have q8 : (strOfNums (eightL 8 u)).size = 8 := by rw [str_size, h8]
  ((repeat' ((conv => whnf) <;> first | exact True.intro | refine F1 ?_ | refine F2 ?_ | (refine Fork.pos ?_ ?_; · (simp only [q1, q2, q5, q6, q7, decide_eq_true_eq, beq_iff_eq, bne_iff_ne, ne_eq] <;> omega)) | (refine Fork.neg ?_ ?_; · (simp only [q1, q2, q5, q6, q7, decide_eq_false_iff_not, beq_eq_false_iff_ne] <;> omega)) | refine F3 (fun h => ?_) fun h => ?_ | refine F4 (fun h => ?_) fun h => ?_ | refine R1 ?_ | refine A1 ?_ | refine A2 ?_ | (refine Ar.fit (wrap_i64 ?_ ?_) ?_; · ((try dsimp only) <;> simp only [q1, q2, q5, q6, q7] <;> omega); · ((try dsimp only) <;> simp only [q1, q2, q5, q6, q7] <;> omega)) | (refine Ar.fit (wrap_u64 ?_ ?_) ?_; · ((try dsimp only) <;> simp only [q1, q2, q5, q6, q7] <;> omega); · ((try dsimp only) <;> simp only [q1, q2, q5, q6, q7] <;> omega)) | (refine AskL.mk ?_ ?_; · ((simp only [conj]; repeat' apply And.intro) <;> first | rfl | trivial | omega | (simp only [q1, q2, q5, q6, q7]; done) | (simp only [q1, q2, q5, q6, q7] <;> omega) | (simp only [q1, q2, q5, q6, q7]; refine Bool.eq_iff_iff.2 ?_; simp only [decide_eq_true_eq, Bool.false_eq_true, true_iff, iff_true, false_iff, iff_false, eq_self]; omega) | (simp only [*, q1, q2, q5, q6, q7]; done))) | refine L1 ?_ | refine K1 ?_ | (refine Ask.mk ?_ ?_; · ((try dsimp only) <;> simp only [q1, q2, q5, q6, q7] <;> omega)) | (refine Y2 fun y he he' hy => ?_; (try dsimp only at he he' hy)) | (refine Y1 fun y he hy => ?_; (try with_reducible conv at he => (rhs; whnf)); (try dsimp only at he hy)) | (refine All'.mk ?_; intro y hy) | refine Q1 ?_ | fail)); all_goals (conv => whnf))
  refine CallP.mk (C := rtextC) (strOfNums b) ?_
  ((repeat' ((conv => whnf) <;> first | exact True.intro | refine F1 ?_ | refine F2 ?_ | (refine Fork.pos ?_ ?_; · (simp only [q1, q2, q5, q6, q7, decide_eq_true_eq, beq_iff_eq, bne_iff_ne, ne_eq] <;> omega)) | (refine Fork.neg ?_ ?_; · (simp only [q1, q2, q5, q6, q7, decide_eq_false_iff_not, beq_eq_false_iff_ne] <;> omega)) | refine F3 (fun h => ?_) fun h => ?_ | refine F4 (fun h => ?_) fun h => ?_ | refine R1 ?_ | refine A1 ?_ | refine A2 ?_ | (refine Ar.fit (wrap_i64 ?_ ?_) ?_; · ((try dsimp only) <;> simp only [q1, q2, q5, q6, q7] <;> omega); · ((try dsimp only) <;> simp only [q1, q2, q5, q6, q7] <;> omega)) | (refine Ar.fit (wrap_u64 ?_ ?_) ?_; · ((try dsimp only) <;> simp only [q1, q2, q5, q6, q7] <;> omega); · ((try dsimp only) <;> simp only [q1, q2, q5, q6, q7] <;> omega)) | (refine AskL.mk ?_ ?_; · ((simp only [conj]; repeat' apply And.intro) <;> first | rfl | trivial | omega | (simp only [q1, q2, q5, q6, q7]; done) | (simp only [q1, q2, q5, q6, q7] <;> omega) | (simp only [q1, q2, q5, q6, q7]; refine Bool.eq_iff_iff.2 ?_; simp only [decide_eq_true_eq, Bool.false_eq_true, true_iff, iff_true, false_iff, iff_false, eq_self]; omega) | (simp only [*, q1, q2, q5, q6, q7]; done))) | refine L1 ?_ | refine K1 ?_ | (refine Ask.mk ?_ ?_; · ((try dsimp only) <;> simp only [q1, q2, q5, q6, q7] <;> omega)) | (refine Y2 fun y he he' hy => ?_; (try dsimp only at he he' hy)) | (refine Y1 fun y he hy => ?_; (try with_reducible conv at he => (rhs; whnf)); (try dsimp only at he hy)) | (refine All'.mk ?_; intro y hy) | refine Q1 ?_ | fail)); all_goals (conv => whnf))
  clear he
  refine CallP.mk (C := seedC) 5 ?_
  ((repeat' ((conv => whnf) <;> first | exact True.intro | refine F1 ?_ | refine F2 ?_ | (refine Fork.pos ?_ ?_; · (simp only [q1, q2, q5, q6, q7, decide_eq_true_eq, beq_iff_eq, bne_iff_ne, ne_eq] <;> omega)) | (refine Fork.neg ?_ ?_; · (simp only [q1, q2, q5, q6, q7, decide_eq_false_iff_not, beq_eq_false_iff_ne] <;> omega)) | refine F3 (fun h => ?_) fun h => ?_ | refine F4 (fun h => ?_) fun h => ?_ | refine R1 ?_ | refine A1 ?_ | refine A2 ?_ | (refine Ar.fit (wrap_i64 ?_ ?_) ?_; · ((try dsimp only) <;> simp only [q1, q2, q5, q6, q7] <;> omega); · ((try dsimp only) <;> simp only [q1, q2, q5, q6, q7] <;> omega)) | (refine Ar.fit (wrap_u64 ?_ ?_) ?_; · ((try dsimp only) <;> simp only [q1, q2, q5, q6, q7] <;> omega); · ((try dsimp only) <;> simp only [q1, q2, q5, q6, q7] <;> omega)) | (refine AskL.mk ?_ ?_; · ((simp only [conj]; repeat' apply And.intro) <;> first | rfl | trivial | omega | (simp only [q1, q2, q5, q6, q7]; done) | (simp only [q1, q2, q5, q6, q7] <;> omega) | (simp only [q1, q2, q5, q6, q7]; refine Bool.eq_iff_iff.2 ?_; simp only [decide_eq_true_eq, Bool.false_eq_true, true_iff, iff_true, false_iff, iff_false, eq_self]; omega) | (simp only [*, q1, q2, q5, q6, q7]; done))) | refine L1 ?_ | refine K1 ?_ | (refine Ask.mk ?_ ?_; · ((try dsimp only) <;> simp only [q1, q2, q5, q6, q7] <;> omega)) | (refine Y2 fun y he he' hy => ?_; (try dsimp only at he he' hy)) | (refine Y1 fun y he hy => ?_; (try with_reducible conv at he => (rhs; whnf)); (try dsimp only at he hy)) | (refine All'.mk ?_; intro y hy) | refine Q1 ?_ | fail)); all_goals (conv => whnf))
  clear he
  refine CallP.mk (C := hashC) ⟨5, 18446744073709551610, strOfNums (frmL ⟨k, b⟩)⟩ ?_
  ((repeat' ((conv => whnf) <;> first | exact True.intro | refine F1 ?_ | refine F2 ?_ | (refine Fork.pos ?_ ?_; · (simp only [q3, q4, decide_eq_true_eq, beq_iff_eq, bne_iff_ne, ne_eq] <;> omega)) | (refine Fork.neg ?_ ?_; · (simp only [q3, q4, decide_eq_false_iff_not, beq_eq_false_iff_ne] <;> omega)) | refine F3 (fun h => ?_) fun h => ?_ | refine F4 (fun h => ?_) fun h => ?_ | refine R1 ?_ | refine A1 ?_ | refine A2 ?_ | (refine Ar.fit (wrap_i64 ?_ ?_) ?_; · ((try dsimp only) <;> simp only [q3, q4] <;> omega); · ((try dsimp only) <;> simp only [q3, q4] <;> omega)) | (refine Ar.fit (wrap_u64 ?_ ?_) ?_; · ((try dsimp only) <;> simp only [q3, q4] <;> omega); · ((try dsimp only) <;> simp only [q3, q4] <;> omega)) | (refine AskL.mk ?_ ?_; · ((simp only [conj]; repeat' apply And.intro) <;> first | rfl | trivial | omega | (simp only [q3, q4]; done) | (simp only [q3, q4] <;> omega) | (simp only [q3, q4]; refine Bool.eq_iff_iff.2 ?_; simp only [decide_eq_true_eq, Bool.false_eq_true, true_iff, iff_true, false_iff, iff_false, eq_self]; omega) | (simp only [*, q3, q4]; done))) | refine L1 ?_ | refine K1 ?_ | (refine Ask.mk ?_ ?_; · ((try dsimp only) <;> simp only [q3, q4] <;> omega)) | (refine Y2 fun y he he' hy => ?_; (try dsimp only at he he' hy)) | (refine Y1 fun y he hy => ?_; (try with_reducible conv at he => (rhs; whnf)); (try dsimp only at he hy)) | (refine All'.mk ?_; intro y hy) | refine Q1 ?_ | fail)); all_goals (conv => whnf))
  obtain rfl : y = ((u : Nat) : Int) := he.trans hu
  clear he
  refine CallP.mk (C := eightC) u ?_
  have q9 : strOfNums (frmL ⟨k, b⟩) ++ strOfNums (eightL 8 u) = strOfNums (frmL ⟨k, b⟩ ++ frmS ⟨k, b⟩) := by rw [str_cat, hfs]
  ((repeat' ((conv => whnf) <;> first | exact True.intro | refine F1 ?_ | refine F2 ?_ | (refine Fork.pos ?_ ?_; · (simp only [q3, q4, q8, q9, decide_eq_true_eq, beq_iff_eq, bne_iff_ne, ne_eq] <;> omega)) | (refine Fork.neg ?_ ?_; · (simp only [q3, q4, q8, q9, decide_eq_false_iff_not, beq_eq_false_iff_ne] <;> omega)) | refine F3 (fun h => ?_) fun h => ?_ | refine F4 (fun h => ?_) fun h => ?_ | refine R1 ?_ | refine A1 ?_ | refine A2 ?_ | (refine Ar.fit (wrap_i64 ?_ ?_) ?_; · ((try dsimp only) <;> simp only [q3, q4, q8, q9] <;> omega); · ((try dsimp only) <;> simp only [q3, q4, q8, q9] <;> omega)) | (refine Ar.fit (wrap_u64 ?_ ?_) ?_; · ((try dsimp only) <;> simp only [q3, q4, q8, q9] <;> omega); · ((try dsimp only) <;> simp only [q3, q4, q8, q9] <;> omega)) | (refine AskL.mk ?_ ?_; · ((simp only [conj]; repeat' apply And.intro) <;> first | rfl | trivial | omega | (simp only [q3, q4, q8, q9]; done) | (simp only [q3, q4, q8, q9] <;> omega) | (simp only [q3, q4, q8, q9]; refine Bool.eq_iff_iff.2 ?_; simp only [decide_eq_true_eq, Bool.false_eq_true, true_iff, iff_true, false_iff, iff_false, eq_self]; omega) | (simp only [*, q3, q4, q8, q9]; done))) | refine L1 ?_ | refine K1 ?_ | (refine Ask.mk ?_ ?_; · ((try dsimp only) <;> simp only [q3, q4, q8, q9] <;> omega)) | (refine Y2 fun y he he' hy => ?_; (try dsimp only at he he' hy)) | (refine Y1 fun y he hy => ?_; (try with_reducible conv at he => (rhs; whnf)); (try dsimp only at he hy)) | (refine All'.mk ?_; intro y hy) | refine Q1 ?_ | fail)); all_goals (conv => whnf))

/-- The frame's cost by the reference. -/
@[reducible] def rcostC : Ctr := {
  X := Nat
  Y := Int
  args := fun n => [.v (.int .i64 (n : Nat))]
  rw := fun _ => []
  side := fun n => n ≤ 2048
  val := fun n => 10 + (numL n).length + n
  ens := fun _ _ => True
  res := fun _ y => .v (.int .i64 y)
  out := fun _ _ => [] }
theorem knownF1 : Known Try.prog (gOf [(58, rfrmC)]) := known_cons ⟨rfrm_ok, Try.call58⟩ (known_nil _)
theorem rcost_ok : rcostC.ok Try.prog 48 := by
  refine ok_of_vc (An := fun _ => anOf []) knownF1 mo Try.func48 (by kernel_rfl) (by kernel_rfl) (fun _ _ => trivial) (fun (n : Nat) hs => ?_)
  have hs : n ≤ 2048 := hs
  have hn := numL_le (u := n) (by omega)
  have hfl : frmL ⟨1, List.replicate n 0⟩ = 71 :: 1 :: (numL n ++ List.replicate n 0) := by unfold frmL; dsimp only; rw [List.length_replicate]
  have q1 : (strOfNums (frmL ⟨1, List.replicate n 0⟩ ++ frmS ⟨1, List.replicate n 0⟩)).size = 10 + (numL n).length + n := by
    rw [str_size, List.length_append, hfl]
    unfold frmS
    rw [eightL_len]
    simp only [List.length_cons, List.length_append, List.length_replicate]; omega
  ((repeat' ((conv => whnf) <;> first | exact True.intro | refine F1 ?_ | refine F2 ?_ | (refine Fork.pos ?_ ?_; · (simp only [q1, List.length_replicate, decide_eq_true_eq, beq_iff_eq, bne_iff_ne, ne_eq] <;> omega)) | (refine Fork.neg ?_ ?_; · (simp only [q1, List.length_replicate, decide_eq_false_iff_not, beq_eq_false_iff_ne] <;> omega)) | refine F3 (fun h => ?_) fun h => ?_ | refine F4 (fun h => ?_) fun h => ?_ | refine R1 ?_ | refine A1 ?_ | refine A2 ?_ | (refine Ar.fit (wrap_i64 ?_ ?_) ?_; · ((try dsimp only) <;> simp only [q1, List.length_replicate] <;> omega); · ((try dsimp only) <;> simp only [q1, List.length_replicate] <;> omega)) | (refine Ar.fit (wrap_u64 ?_ ?_) ?_; · ((try dsimp only) <;> simp only [q1, List.length_replicate] <;> omega); · ((try dsimp only) <;> simp only [q1, List.length_replicate] <;> omega)) | (refine AskL.mk ?_ ?_; · ((simp only [conj]; repeat' apply And.intro) <;> first | rfl | trivial | omega | (simp only [q1, List.length_replicate]; done) | (simp only [q1, List.length_replicate] <;> omega) | (simp only [q1, List.length_replicate]; refine Bool.eq_iff_iff.2 ?_; simp only [decide_eq_true_eq, Bool.false_eq_true, true_iff, iff_true, false_iff, iff_false, eq_self]; omega) | (simp only [*, q1, List.length_replicate]; done))) | refine L1 ?_ | refine K1 ?_ | (refine Ask.mk ?_ ?_; · ((try dsimp only) <;> simp only [q1, List.length_replicate] <;> omega)) | (refine Y2 fun y he he' hy => ?_; (try dsimp only at he he' hy)) | (refine Y1 fun y he hy => ?_; (try with_reducible conv at he => (rhs; whnf)); (try dsimp only at he hy)) | (refine All'.mk ?_; intro y hy) | refine Q1 ?_ | fail)); all_goals (conv => whnf))
  refine CallP.mk (C := rfrmC) ⟨1, List.replicate n 0⟩ ?_
  ((repeat' ((conv => whnf) <;> first | exact True.intro | refine F1 ?_ | refine F2 ?_ | (refine Fork.pos ?_ ?_; · (simp only [q1, List.length_replicate, decide_eq_true_eq, beq_iff_eq, bne_iff_ne, ne_eq] <;> omega)) | (refine Fork.neg ?_ ?_; · (simp only [q1, List.length_replicate, decide_eq_false_iff_not, beq_eq_false_iff_ne] <;> omega)) | refine F3 (fun h => ?_) fun h => ?_ | refine F4 (fun h => ?_) fun h => ?_ | refine R1 ?_ | refine A1 ?_ | refine A2 ?_ | (refine Ar.fit (wrap_i64 ?_ ?_) ?_; · ((try dsimp only) <;> simp only [q1, List.length_replicate] <;> omega); · ((try dsimp only) <;> simp only [q1, List.length_replicate] <;> omega)) | (refine Ar.fit (wrap_u64 ?_ ?_) ?_; · ((try dsimp only) <;> simp only [q1, List.length_replicate] <;> omega); · ((try dsimp only) <;> simp only [q1, List.length_replicate] <;> omega)) | (refine AskL.mk ?_ ?_; · ((simp only [conj]; repeat' apply And.intro) <;> first | rfl | trivial | omega | (simp only [q1, List.length_replicate]; done) | (simp only [q1, List.length_replicate] <;> omega) | (simp only [q1, List.length_replicate]; refine Bool.eq_iff_iff.2 ?_; simp only [decide_eq_true_eq, Bool.false_eq_true, true_iff, iff_true, false_iff, iff_false, eq_self]; omega) | (simp only [*, q1, List.length_replicate]; done))) | refine L1 ?_ | refine K1 ?_ | (refine Ask.mk ?_ ?_; · ((try dsimp only) <;> simp only [q1, List.length_replicate] <;> omega)) | (refine Y2 fun y he he' hy => ?_; (try dsimp only at he he' hy)) | (refine Y1 fun y he hy => ?_; (try with_reducible conv at he => (rhs; whnf)); (try dsimp only at he hy)) | (refine All'.mk ?_; intro y hy) | refine Q1 ?_ | fail)); all_goals (conv => whnf))
end Go.Proofs.Ytdgemajcplbllaa
