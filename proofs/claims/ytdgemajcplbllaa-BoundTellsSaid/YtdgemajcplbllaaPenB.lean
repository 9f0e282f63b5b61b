/- Pen: the bytes that were written; the reference's numbers and texts. -/
import Derived.Test.YtdgemajcplbllaaPenA
set_option linter.unusedVariables false
set_option linter.unusedSimpArgs false
set_option maxRecDepth 100000
namespace Go.Proofs.Ytdgemajcplbllaa
open Go.Eng

@[reducible] def penBytesC : Ctr := {
  X := List Int
  Y := Unit
  args := fun x => [.ptr 0 0]
  rw := fun x => penE 0 x 1
  side := fun x => x.length ≤ 274877906944
  val := fun _ => ()
  ens := fun _ _ => True
  res := fun _ _ => .sl 1000
  out := fun x _ => (1000, .row 5 (.int .u8) x) :: penE 0 x 1 }
theorem knownP2 : Known Try.prog (gOf [(68, cloneBC)]) := known_cons ⟨cloneB_ok, Try.call68⟩ (known_nil _)
theorem penBytes_ok : penBytesC.ok Try.prog 60 := by
  refine ok_of_vc (An := fun _ => anOf []) knownP2 mo Try.func60 (by kernel_rfl) (by kernel_rfl) (fun _ _ => trivial) (fun (x : List Int) hs => ?_)
  have hs : x.length ≤ 274877906944 := hs
  ((repeat' ((conv => whnf) <;> first | exact True.intro | refine F1 ?_ | refine F2 ?_ | refine F3 (fun h => ?_) fun h => ?_ | refine F4 (fun h => ?_) fun h => ?_ | refine R1 ?_ | refine A1 ?_ | refine A2 ?_ | refine L1 ?_ | refine K1 ?_ | (refine Y2 fun y he he' hy => ?_; (try dsimp only at he he' hy)) | (refine Y1 fun y he hy => ?_; (try with_reducible conv at he => (rhs; whnf)); (try dsimp only at he hy)) | (refine All'.mk ?_; intro y hy) | refine Q1 ?_ | fail)); all_goals (conv => whnf))
  refine CallP.mk (C := cloneBC) x ?_
  ((repeat' ((conv => whnf) <;> first | exact True.intro | refine F1 ?_ | refine F2 ?_ | refine F3 (fun h => ?_) fun h => ?_ | refine F4 (fun h => ?_) fun h => ?_ | refine R1 ?_ | refine A1 ?_ | refine A2 ?_ | refine L1 ?_ | refine K1 ?_ | (refine Y2 fun y he he' hy => ?_; (try dsimp only at he he' hy)) | (refine Y1 fun y he hy => ?_; (try with_reducible conv at he => (rhs; whnf)); (try dsimp only at he hy)) | (refine All'.mk ?_; intro y hy) | refine Q1 ?_ | fail)); all_goals (conv => whnf))

@[reducible] def rnumC : Ctr := {
  X := Nat
  Y := Unit
  args := fun u => [.v (.int .u64 (u : Nat))]
  rw := fun _ => []
  side := fun u => u < 18446744073709551616
  val := fun _ => ()
  ens := fun _ _ => True
  res := fun u _ => .v (.string (strOfNums (numL u)))
  out := fun _ _ => [] }
structure RnumS where
  v : Nat
  acc : List Int
@[reducible] def rnumL (u : Nat) : LA := {
  X := RnumS
  pre := fun s => beL u = beL s.v ++ s.acc ∧ s.v ≤ u
  mu := fun s => s.v
  T := fun s => [(0, .v (.int .u64 (s.v : Nat))), (3, .v (.string (strOfNums s.acc)))]
  M := fun _ => [] }
theorem str_nil : strOfNums [] = ByteArray.empty := rfl
theorem tmod_nat (a b : Nat) : ((a : Nat) : Int).tmod ((b : Nat) : Int) = ((a % b : Nat) : Int) := by
  rw [Int.tmod_eq_emod_of_nonneg (by omega)]; rfl
theorem tdiv_nat (a b : Nat) : ((a : Nat) : Int).tdiv ((b : Nat) : Int) = ((a / b : Nat) : Int) := by
  rw [Int.tdiv_eq_ediv_of_nonneg (by omega)]; rfl

theorem rnum_ok : rnumC.ok Try.prog 56 := by
  refine ok_of_vc (An := fun (u : Nat) => anOf [(0, .loop (rnumL u))]) (known_nil _) mo Try.func56 (by kernel_rfl) (by kernel_rfl) (fun _ _ => trivial) (fun (u : Nat) hs => ?_)
  have hs : u < 18446744073709551616 := hs
  have hb := beL_lt 8 u (by omega)
  ((repeat' ((conv => whnf) <;> first | exact True.intro | refine F1 ?_ | refine F2 ?_ | refine F3 (fun h => ?_) fun h => ?_ | refine F4 (fun h => ?_) fun h => ?_ | refine R1 ?_ | refine A1 ?_ | refine A2 ?_ | refine L1 ?_ | refine K1 ?_ | (refine Y2 fun y he he' hy => ?_; (try dsimp only at he he' hy)) | (refine Y1 fun y he hy => ?_; (try with_reducible conv at he => (rhs; whnf)); (try dsimp only at he hy)) | (refine All'.mk ?_; intro y hy) | refine Q1 ?_ | fail)); all_goals (conv => whnf))
  · have hw : IntKind.u8.wrap ((u : Nat) : Int) = ((u : Nat) : Int) := wrap_u8 (by omega) (by omega)
    refine AskL.mk ?_ trivial
    simp only [conj]
    rw [numL_small (by omega), hw]
  · refine Some'.mk ⟨u, []⟩ ?_
    ((repeat' ((conv => whnf) <;> first | exact True.intro | refine F1 ?_ | refine F2 ?_ | refine F3 (fun h => ?_) fun h => ?_ | refine F4 (fun h => ?_) fun h => ?_ | refine R1 ?_ | refine A1 ?_ | refine A2 ?_ | refine L1 ?_ | refine K1 ?_ | (refine Y2 fun y he he' hy => ?_; (try dsimp only at he he' hy)) | (refine Y1 fun y he hy => ?_; (try with_reducible conv at he => (rhs; whnf)); (try dsimp only at he hy)) | (refine All'.mk ?_; intro y hy) | refine Q1 ?_ | fail)); all_goals (conv => whnf))
    refine Ask.mk ⟨(List.append_nil _).symm, Nat.le_refl _⟩ ?_
    ((repeat' ((conv => whnf) <;> first | exact True.intro | refine F1 ?_ | refine F2 ?_ | refine F3 (fun h => ?_) fun h => ?_ | refine F4 (fun h => ?_) fun h => ?_ | refine R1 ?_ | refine A1 ?_ | refine A2 ?_ | refine L1 ?_ | refine K1 ?_ | (refine Y2 fun y he he' hy => ?_; (try dsimp only at he he' hy)) | (refine Y1 fun y he hy => ?_; (try with_reducible conv at he => (rhs; whnf)); (try dsimp only at he hy)) | (refine All'.mk ?_; intro y hy) | refine Q1 ?_ | fail)); all_goals (conv => whnf))
    refine AllI.mk ?_
    rintro ⟨v, acc⟩ ⟨h1, h2⟩
    dsimp only at h1 h2
    have hm : ((v : Nat) : Int).tmod 256 = ((v % 256 : Nat) : Int) := tmod_nat v 256
    have hd : ((v : Nat) : Int).tdiv 256 = ((v / 256 : Nat) : Int) := tdiv_nat v 256
    have hw : IntKind.u64.wrap ((v / 256 : Nat) : Int) = ((v / 256 : Nat) : Int) := wrap_u64 (by omega) (by omega)
    have hw8 : IntKind.u8.wrap ((v % 256 : Nat) : Int) = ((v % 256 : Nat) : Int) := wrap_u8 (by omega) (by omega)
    have hal : acc.length ≤ 8 := by have := congrArg List.length h1; rw [List.length_append] at this; omega
    have hcat := str_cat [((v % 256 : Nat) : Int)] acc
    have hsa := str_size acc
    ((repeat' ((conv => whnf) <;> first | exact True.intro | refine F1 ?_ | refine F2 ?_ | (refine Fork.pos ?_ ?_; · (simp only [str_size, List.length_singleton, decide_eq_true_eq, beq_iff_eq, bne_iff_ne, ne_eq] <;> omega)) | (refine Fork.neg ?_ ?_; · (simp only [str_size, List.length_singleton, decide_eq_false_iff_not, beq_eq_false_iff_ne] <;> omega)) | refine F3 (fun h => ?_) fun h => ?_ | refine F4 (fun h => ?_) fun h => ?_ | refine R1 ?_ | refine A1 ?_ | refine A2 ?_ | (refine Ar.fit (wrap_i64 ?_ ?_) ?_; · ((try dsimp only) <;> simp only [str_size, List.length_singleton] <;> omega); · ((try dsimp only) <;> simp only [str_size, List.length_singleton] <;> omega)) | (refine Ar.fit (wrap_u64 ?_ ?_) ?_; · ((try dsimp only) <;> simp only [str_size, List.length_singleton] <;> omega); · ((try dsimp only) <;> simp only [str_size, List.length_singleton] <;> omega)) | (refine AskL.mk ?_ ?_; · ((simp only [conj]; repeat' apply And.intro) <;> first | rfl | trivial | omega | (simp only [str_size, List.length_singleton]; done) | (simp only [str_size, List.length_singleton] <;> omega) | (simp only [str_size, List.length_singleton]; refine Bool.eq_iff_iff.2 ?_; simp only [decide_eq_true_eq, Bool.false_eq_true, true_iff, iff_true, false_iff, iff_false, eq_self]; omega) | (simp only [*, str_size, List.length_singleton]; done))) | refine L1 ?_ | refine K1 ?_ | (refine Ask.mk ?_ ?_; · ((try dsimp only) <;> simp only [str_size, List.length_singleton] <;> omega)) | (refine Y2 fun y he he' hy => ?_; (try dsimp only at he he' hy)) | (refine Y1 fun y he hy => ?_; (try with_reducible conv at he => (rhs; whnf)); (try dsimp only at he hy)) | (refine All'.mk ?_; intro y hy) | refine Q1 ?_ | fail)); all_goals (conv => whnf))
    · have hp := beL_pos (u := v) (by omega)
      have he : beL u = beL (v / 256) ++ ([((v % 256 : Nat) : Int)] ++ acc) := by rw [h1, hp, List.append_assoc]
      refine Some'.mk ⟨v / 256, [((v % 256 : Nat) : Int)] ++ acc⟩ ?_
      clear h1 hp
      ((repeat' ((conv => whnf) <;> first | exact True.intro | refine F1 ?_ | refine F2 ?_ | (refine Fork.pos ?_ ?_; · (simp only [str_size, List.length_singleton, decide_eq_true_eq, beq_iff_eq, bne_iff_ne, ne_eq] <;> omega)) | (refine Fork.neg ?_ ?_; · (simp only [str_size, List.length_singleton, decide_eq_false_iff_not, beq_eq_false_iff_ne] <;> omega)) | refine F3 (fun h => ?_) fun h => ?_ | refine F4 (fun h => ?_) fun h => ?_ | refine R1 ?_ | refine A1 ?_ | refine A2 ?_ | (refine Ar.fit (wrap_i64 ?_ ?_) ?_; · ((try dsimp only) <;> simp only [str_size, List.length_singleton] <;> omega); · ((try dsimp only) <;> simp only [str_size, List.length_singleton] <;> omega)) | (refine Ar.fit (wrap_u64 ?_ ?_) ?_; · ((try dsimp only) <;> simp only [str_size, List.length_singleton] <;> omega); · ((try dsimp only) <;> simp only [str_size, List.length_singleton] <;> omega)) | (refine AskL.mk ?_ ?_; · ((simp only [conj]; repeat' apply And.intro) <;> first | rfl | trivial | omega | (simp only [str_size, List.length_singleton]; done) | (simp only [str_size, List.length_singleton] <;> omega) | (simp only [str_size, List.length_singleton]; refine Bool.eq_iff_iff.2 ?_; simp only [decide_eq_true_eq, Bool.false_eq_true, true_iff, iff_true, false_iff, iff_false, eq_self]; omega) | (simp only [*, str_size, List.length_singleton]; done))) | refine L1 ?_ | refine K1 ?_ | (refine Ask.mk ?_ ?_; · ((try dsimp only) <;> simp only [str_size, List.length_singleton] <;> omega)) | (refine Y2 fun y he he' hy => ?_; (try dsimp only at he he' hy)) | (refine Y1 fun y he hy => ?_; (try with_reducible conv at he => (rhs; whnf)); (try dsimp only at he hy)) | (refine All'.mk ?_; intro y hy) | refine Q1 ?_ | fail)); all_goals (conv => whnf))
      refine Ask.mk ⟨he, by dsimp only; omega⟩ ?_
      ((repeat' ((conv => whnf) <;> first | exact True.intro | refine F1 ?_ | refine F2 ?_ | (refine Fork.pos ?_ ?_; · (simp only [str_size, List.length_singleton, decide_eq_true_eq, beq_iff_eq, bne_iff_ne, ne_eq] <;> omega)) | (refine Fork.neg ?_ ?_; · (simp only [str_size, List.length_singleton, decide_eq_false_iff_not, beq_eq_false_iff_ne] <;> omega)) | refine F3 (fun h => ?_) fun h => ?_ | refine F4 (fun h => ?_) fun h => ?_ | refine R1 ?_ | refine A1 ?_ | refine A2 ?_ | (refine Ar.fit (wrap_i64 ?_ ?_) ?_; · ((try dsimp only) <;> simp only [str_size, List.length_singleton] <;> omega); · ((try dsimp only) <;> simp only [str_size, List.length_singleton] <;> omega)) | (refine Ar.fit (wrap_u64 ?_ ?_) ?_; · ((try dsimp only) <;> simp only [str_size, List.length_singleton] <;> omega); · ((try dsimp only) <;> simp only [str_size, List.length_singleton] <;> omega)) | (refine AskL.mk ?_ ?_; · ((simp only [conj]; repeat' apply And.intro) <;> first | rfl | trivial | omega | (simp only [str_size, List.length_singleton]; done) | (simp only [str_size, List.length_singleton] <;> omega) | (simp only [str_size, List.length_singleton]; refine Bool.eq_iff_iff.2 ?_; simp only [decide_eq_true_eq, Bool.false_eq_true, true_iff, iff_true, false_iff, iff_false, eq_self]; omega) | (simp only [*, str_size, List.length_singleton]; done))) | refine L1 ?_ | refine K1 ?_ | (refine Ask.mk ?_ ?_; · ((try dsimp only) <;> simp only [str_size, List.length_singleton] <;> omega)) | (refine Y2 fun y he he' hy => ?_; (try dsimp only at he he' hy)) | (refine Y1 fun y he hy => ?_; (try with_reducible conv at he => (rhs; whnf)); (try dsimp only at he hy)) | (refine All'.mk ?_; intro y hy) | refine Q1 ?_ | fail)); all_goals (conv => whnf))
    · have hv : v = 0 := by omega
      subst hv
      rw [beL_zero, List.nil_append] at h1
      have hw9 : IntKind.u8.wrap (247 + (((strOfNums acc).size : Nat) : Int)) = ((247 + (beL u).length : Nat) : Int) := by
        rw [str_size, h1, wrap_u8 (by omega) (by omega)]; omega
      refine AskL.mk ?_ trivial
      simp only [conj]
      rw [numL_great (by omega), hw9, str_cat, h1]
      rfl

@[reducible] def rtextC : Ctr := {
  X := ByteArray
  Y := Unit
  args := fun s => [.v (.string s)]
  rw := fun _ => []
  side := fun s => s.size ≤ 9223372036854775000
  val := fun _ => ()
  ens := fun _ _ => True
  res := fun s _ => .v (.string (strOfNums (numL s.size ++ bytesL s)))
  out := fun _ _ => [] }
theorem knownP3 : Known Try.prog (gOf [(56, rnumC)]) := known_cons ⟨rnum_ok, Try.call56⟩ (known_nil _)
theorem rtext_ok : rtextC.ok Try.prog 55 := by
  refine ok_of_vc (An := fun _ => anOf []) knownP3 mo Try.func55 (by kernel_rfl) (by kernel_rfl) (fun _ _ => trivial) (fun (s : ByteArray) hs => ?_)
  have hs : s.size ≤ 9223372036854775000 := hs
  have hw : IntKind.u64.wrap ((s.size : Nat) : Int) = ((s.size : Nat) : Int) := wrap_u64 (by omega) (by omega)
  have hn := numL_le (u := s.size) (by omega)
  have hcat : strOfNums (numL s.size) ++ s = strOfNums (numL s.size ++ bytesL s) := by rw [← str_cat, str_bytesL]
  ((repeat' ((conv => whnf) <;> first | exact True.intro | refine F1 ?_ | refine F2 ?_ | refine F3 (fun h => ?_) fun h => ?_ | refine F4 (fun h => ?_) fun h => ?_ | refine R1 ?_ | refine A1 ?_ | refine A2 ?_ | refine L1 ?_ | refine K1 ?_ | (refine Y2 fun y he he' hy => ?_; (try dsimp only at he he' hy)) | (refine Y1 fun y he hy => ?_; (try with_reducible conv at he => (rhs; whnf)); (try dsimp only at he hy)) | (refine All'.mk ?_; intro y hy) | refine Q1 ?_ | fail)); all_goals (conv => whnf))
  refine CallP.mk (C := rnumC) s.size ?_
  ((repeat' ((conv => whnf) <;> first | exact True.intro | refine F1 ?_ | refine F2 ?_ | (refine Fork.pos ?_ ?_; · (simp only [str_size, decide_eq_true_eq, beq_iff_eq, bne_iff_ne, ne_eq] <;> omega)) | (refine Fork.neg ?_ ?_; · (simp only [str_size, decide_eq_false_iff_not, beq_eq_false_iff_ne] <;> omega)) | refine F3 (fun h => ?_) fun h => ?_ | refine F4 (fun h => ?_) fun h => ?_ | refine R1 ?_ | refine A1 ?_ | refine A2 ?_ | (refine Ar.fit (wrap_i64 ?_ ?_) ?_; · ((try dsimp only) <;> simp only [str_size] <;> omega); · ((try dsimp only) <;> simp only [str_size] <;> omega)) | (refine Ar.fit (wrap_u64 ?_ ?_) ?_; · ((try dsimp only) <;> simp only [str_size] <;> omega); · ((try dsimp only) <;> simp only [str_size] <;> omega)) | (refine AskL.mk ?_ ?_; · ((simp only [conj]; repeat' apply And.intro) <;> first | rfl | trivial | omega | (simp only [str_size]; done) | (simp only [str_size] <;> omega) | (simp only [str_size]; refine Bool.eq_iff_iff.2 ?_; simp only [decide_eq_true_eq, Bool.false_eq_true, true_iff, iff_true, false_iff, iff_false, eq_self]; omega) | (simp only [*, str_size]; done))) | refine L1 ?_ | refine K1 ?_ | (refine Ask.mk ?_ ?_; · ((try dsimp only) <;> simp only [str_size] <;> omega)) | (refine Y2 fun y he he' hy => ?_; (try dsimp only at he he' hy)) | (refine Y1 fun y he hy => ?_; (try with_reducible conv at he => (rhs; whnf)); (try dsimp only at he hy)) | (refine All'.mk ?_; intro y hy) | refine Q1 ?_ | fail)); all_goals (conv => whnf))
end Go.Proofs.Ytdgemajcplbllaa
