/- The reference's hash: the whole. -/
import Derived.Test.YtdgemajcplbllaaSipA
set_option linter.unusedVariables false
set_option linter.unusedSimpArgs false
set_option maxRecDepth 100000
namespace Go.Proofs.Ytdgemajcplbllaa
open Go.Eng

def padN (s : ByteArray) : Nat := (15 - s.size % 8) % 8
def padS (s : ByteArray) (j : Nat) : ByteArray := s ++ strOfNums (List.replicate j 0)
theorem padS_size (s : ByteArray) (j : Nat) : (padS s j).size = s.size + j := by
  unfold padS; rw [ByteArray.size_append, str_size, List.length_replicate]
theorem padS_succ (s : ByteArray) (j : Nat) : padS s (j + 1) = padS s j ++ strOfNums [0] := by
  unfold padS
  rw [List.replicate_succ', ← str_cat, ByteArray.append_assoc]
def hashIn (s : ByteArray) : ByteArray := padS s (padN s) ++ strOfNums [((s.size % 256 : Nat) : Int)]
theorem hashIn_size (s : ByteArray) : (hashIn s).size % 8 = 0 ∧ (hashIn s).size ≤ s.size + 8 := by
  unfold hashIn
  rw [ByteArray.size_append, str_size, padS_size]
  simp only [padN, List.length_singleton]
  omega

def wordF (s : ByteArray) : Nat → Int → Int
  | 0, w => w
  | i + 1, w => wordF s i (IntKind.u64.wrap (IntKind.u64.wrap (w * 256) + IntKind.u64.wrap (byteAt s i)))
def stepV (v : V4) (w : Int) : V4 :=
  let v2 := roundV (roundV ⟨v.a, v.b, v.c, bxor v.d w⟩)
  ⟨bxor v2.a w, v2.b, v2.c, v2.d⟩
theorem cut_size (s : ByteArray) : (s.extract 8 s.size).size = s.size - 8 := by rw [ByteArray.size_extract]; omega
def hashF (v : V4) (s : ByteArray) : V4 := if h : 8 ≤ s.size then hashF (stepV v (wordF s 8 0)) (s.extract 8 s.size) else v
termination_by s.size
decreasing_by rw [cut_size]; omega
theorem hashF_step {v : V4} {s : ByteArray} (h : 8 ≤ s.size) : hashF v s = hashF (stepV v (wordF s 8 0)) (s.extract 8 s.size) := by rw [hashF, dif_pos h]
theorem hashF_end {v : V4} {s : ByteArray} (h : s.size = 0) : hashF v s = v := by rw [hashF, dif_neg (by omega)]
def hashE (v : V4) : Int :=
  let v := roundV (roundV (roundV (roundV ⟨v.a, v.b, bxor v.c 255, v.d⟩)))
  bxor (bxor (bxor v.a v.b) v.c) v.d
structure HashX where
  a : Int
  b : Int
  s : ByteArray
def hash0 (x : HashX) : V4 := hashF ⟨bxor x.a 8317987319222330741, bxor x.b 7237128888997146477, bxor x.a 7816392313619706465, bxor x.b 8387220255154660723⟩ (hashIn x.s)
def hashV (x : HashX) : Int := hashE (hash0 x)
@[reducible] def hashC : Ctr := {
  X := HashX
  Y := Int
  args := fun x => [.agg [.v (.int .u64 x.a), .v (.int .u64 x.b)], .v (.string x.s)]
  rw := fun _ => []
  side := fun x => x.s.size ≤ 1000000000000
  val := fun x => hashV x
  ens := fun _ _ => True
  res := fun _ y => .v (.int .u64 y)
  out := fun _ _ => [] }
@[reducible] def hPad (x : HashX) : LA := {
  X := Nat
  pre := fun j => j ≤ padN x.s
  mu := fun j => padN x.s - j
  T := fun j => [(1, .v (.string (padS x.s j))), (5, .ptr 0 0), (6, .v (.int .i64 ((x.s.size % 256 : Nat) : Int)))]
  M := fun _ => [(0, .cells 102 (v4L ⟨bxor x.a 8317987319222330741, bxor x.b 7237128888997146477, bxor x.a 7816392313619706465, bxor x.b 8387220255154660723⟩))] }
structure HOut where
  v : V4
  s : ByteArray
@[reducible] def hOut (x : HashX) : LA := {
  X := HOut
  pre := fun t => hash0 x = hashF t.v t.s ∧ t.s.size % 8 = 0 ∧ t.s.size ≤ 1000000000008
  mu := fun t => t.s.size
  T := fun t => [(1, .v (.string t.s)), (5, .ptr 0 0)]
  M := fun t => [(0, .cells 102 (v4L t.v))] }
structure HIn where
  v : V4
  s : ByteArray
  w : Int
  i : Nat
@[reducible] def hIn (x : HashX) (m : Nat) : LA := {
  X := HIn
  pre := fun t => hash0 x = hashF t.v t.s ∧ t.s.size % 8 = 0 ∧ t.s.size ≤ 1000000000008 ∧ 8 ≤ t.s.size ∧ t.s.size = m ∧ t.i ≤ 8 ∧ wordF t.s 8 0 = wordF t.s t.i t.w
  mu := fun t => t.i
  T := fun t => [(1, .v (.string t.s)), (5, .ptr 0 0), (7, .v (.int .u64 t.w)), (8, .v (.int .i64 ((t.i : Int) - 1)))]
  M := fun t => [(0, .cells 102 (v4L t.v))] }
theorem knownS1 : Known Try.prog (gOf [(69, roundC)]) := known_cons ⟨round_ok, Try.call69⟩ (known_nil _)
theorem hash_ok : hashC.ok Try.prog 62 := by
  refine ok_of_vc (An := fun (x : HashX) => anOfM fun ms => [(0, .loop (hPad x)), (2, .loop (hOut x)), (4, .loop (hIn x (ms.headD 0)))]) knownS1 mo Try.func62 (by kernel_rfl) (by kernel_rfl) (fun _ _ => trivial) (fun x hs => ?_)
  obtain ⟨A, B, s⟩ := x
  have hs : s.size ≤ 1000000000000 := hs
  have hn : ((s.size : Nat) : Int).tmod 256 = ((s.size % 256 : Nat) : Int) := tmod_nat s.size 256
  have hpz : padS s 0 = s := by
    unfold padS; rw [List.replicate_zero]
    apply ByteArray.ext
    simp [strOfNums]
  have hpn : padN s = (15 - s.size % 8) % 8 := rfl
  have h0 : (⟨#[0]⟩ : ByteArray) = strOfNums [0] := rfl
  ((repeat' ((conv => whnf) <;> first | exact True.intro | refine F1 ?_ | refine F2 ?_ | (refine Fork.pos ?_ ?_; · (simp only [hpz, hn, decide_eq_true_eq, beq_iff_eq, bne_iff_ne, ne_eq] <;> omega)) | (refine Fork.neg ?_ ?_; · (simp only [hpz, hn, decide_eq_false_iff_not, beq_eq_false_iff_ne] <;> omega)) | refine F3 (fun h => ?_) fun h => ?_ | refine F4 (fun h => ?_) fun h => ?_ | refine R1 ?_ | refine A1 ?_ | refine A2 ?_ | (refine Ar.fit (wrap_i64 ?_ ?_) ?_; · ((try dsimp only) <;> simp only [hpz, hn] <;> omega); · ((try dsimp only) <;> simp only [hpz, hn] <;> omega)) | (refine Ar.fit (wrap_u64 ?_ ?_) ?_; · ((try dsimp only) <;> simp only [hpz, hn] <;> omega); · ((try dsimp only) <;> simp only [hpz, hn] <;> omega)) | (refine AskL.mk ?_ ?_; · ((simp only [conj]; repeat' apply And.intro) <;> first | rfl | trivial | omega | (simp only [hpz, hn]; done) | (simp only [hpz, hn] <;> omega) | (simp only [hpz, hn]; refine Bool.eq_iff_iff.2 ?_; simp only [decide_eq_true_eq, Bool.false_eq_true, true_iff, iff_true, false_iff, iff_false, eq_self]; omega) | (simp only [*, hpz, hn]; done))) | refine L1 ?_ | refine K1 ?_ | (refine Ask.mk ?_ ?_; · ((try dsimp only) <;> simp only [hpz, hn] <;> omega)) | (refine Y2 fun y he he' hy => ?_; (try dsimp only at he he' hy)) | (refine Y1 fun y he hy => ?_; (try with_reducible conv at he => (rhs; whnf)); (try dsimp only at he hy)) | (refine All'.mk ?_; intro y hy) | refine Q1 ?_ | fail)); all_goals (conv => whnf))
  refine Some'.mk 0 ?_
  ((repeat' ((conv => whnf) <;> first | exact True.intro | refine F1 ?_ | refine F2 ?_ | (refine Fork.pos ?_ ?_; · (simp only [hpz, hn, decide_eq_true_eq, beq_iff_eq, bne_iff_ne, ne_eq] <;> omega)) | (refine Fork.neg ?_ ?_; · (simp only [hpz, hn, decide_eq_false_iff_not, beq_eq_false_iff_ne] <;> omega)) | refine F3 (fun h => ?_) fun h => ?_ | refine F4 (fun h => ?_) fun h => ?_ | refine R1 ?_ | refine A1 ?_ | refine A2 ?_ | (refine Ar.fit (wrap_i64 ?_ ?_) ?_; · ((try dsimp only) <;> simp only [hpz, hn] <;> omega); · ((try dsimp only) <;> simp only [hpz, hn] <;> omega)) | (refine Ar.fit (wrap_u64 ?_ ?_) ?_; · ((try dsimp only) <;> simp only [hpz, hn] <;> omega); · ((try dsimp only) <;> simp only [hpz, hn] <;> omega)) | (refine AskL.mk ?_ ?_; · ((simp only [conj]; repeat' apply And.intro) <;> first | rfl | trivial | omega | (simp only [hpz, hn]; done) | (simp only [hpz, hn] <;> omega) | (simp only [hpz, hn]; refine Bool.eq_iff_iff.2 ?_; simp only [decide_eq_true_eq, Bool.false_eq_true, true_iff, iff_true, false_iff, iff_false, eq_self]; omega) | (simp only [*, hpz, hn]; done))) | refine L1 ?_ | refine K1 ?_ | (refine Ask.mk ?_ ?_; · ((try dsimp only) <;> simp only [hpz, hn] <;> omega)) | (refine Y2 fun y he he' hy => ?_; (try dsimp only at he he' hy)) | (refine Y1 fun y he hy => ?_; (try with_reducible conv at he => (rhs; whnf)); (try dsimp only at he hy)) | (refine All'.mk ?_; intro y hy) | refine Q1 ?_ | fail)); all_goals (conv => whnf))
  refine AllI.mk ?_
  rintro (j : Nat) h1
  dsimp only at h1
  have hsz := padS_size s j
  have hm : (((padS s j).size : Nat) : Int).tmod 8 = (((s.size + j) % 8 : Nat) : Int) := by rw [hsz]; exact tmod_nat (s.size + j) 8
  clear hpz
  rcases Nat.lt_or_ge j (padN s) with hlt | hge
  · have hne : (s.size + j) % 8 ≠ 7 := by rw [hpn] at hlt; omega
    have hst := padS_succ s j
    have hjb : j ≤ 8 := by rw [hpn] at h1; omega
    ((repeat' ((conv => whnf) <;> first | exact True.intro | refine F1 ?_ | refine F2 ?_ | (refine Fork.pos ?_ ?_; · (simp only [hm, h0, str_size, List.length_singleton, decide_eq_true_eq, beq_iff_eq, bne_iff_ne, ne_eq] <;> omega)) | (refine Fork.neg ?_ ?_; · (simp only [hm, h0, str_size, List.length_singleton, decide_eq_false_iff_not, beq_eq_false_iff_ne] <;> omega)) | refine F3 (fun h => ?_) fun h => ?_ | refine F4 (fun h => ?_) fun h => ?_ | refine R1 ?_ | refine A1 ?_ | refine A2 ?_ | (refine Ar.fit (wrap_i64 ?_ ?_) ?_; · ((try dsimp only) <;> simp only [hm, h0, str_size, List.length_singleton] <;> omega); · ((try dsimp only) <;> simp only [hm, h0, str_size, List.length_singleton] <;> omega)) | (refine Ar.fit (wrap_u64 ?_ ?_) ?_; · ((try dsimp only) <;> simp only [hm, h0, str_size, List.length_singleton] <;> omega); · ((try dsimp only) <;> simp only [hm, h0, str_size, List.length_singleton] <;> omega)) | (refine AskL.mk ?_ ?_; · ((simp only [conj]; repeat' apply And.intro) <;> first | rfl | trivial | omega | (simp only [hm, h0, str_size, List.length_singleton]; done) | (simp only [hm, h0, str_size, List.length_singleton] <;> omega) | (simp only [hm, h0, str_size, List.length_singleton]; refine Bool.eq_iff_iff.2 ?_; simp only [decide_eq_true_eq, Bool.false_eq_true, true_iff, iff_true, false_iff, iff_false, eq_self]; omega) | (simp only [*, hm, h0, str_size, List.length_singleton]; done))) | refine L1 ?_ | refine K1 ?_ | (refine Ask.mk ?_ ?_; · ((try dsimp only) <;> simp only [hm, h0, str_size, List.length_singleton] <;> omega)) | (refine Y2 fun y he he' hy => ?_; (try dsimp only at he he' hy)) | (refine Y1 fun y he hy => ?_; (try with_reducible conv at he => (rhs; whnf)); (try dsimp only at he hy)) | (refine All'.mk ?_; intro y hy) | refine Q1 ?_ | fail)); all_goals (conv => whnf))
    refine Some'.mk (j + 1) ?_
    ((repeat' ((conv => whnf) <;> first | exact True.intro | refine F1 ?_ | refine F2 ?_ | (refine Fork.pos ?_ ?_; · (simp only [h0, hst, decide_eq_true_eq, beq_iff_eq, bne_iff_ne, ne_eq] <;> omega)) | (refine Fork.neg ?_ ?_; · (simp only [h0, hst, decide_eq_false_iff_not, beq_eq_false_iff_ne] <;> omega)) | refine F3 (fun h => ?_) fun h => ?_ | refine F4 (fun h => ?_) fun h => ?_ | refine R1 ?_ | refine A1 ?_ | refine A2 ?_ | (refine Ar.fit (wrap_i64 ?_ ?_) ?_; · ((try dsimp only) <;> simp only [h0, hst] <;> omega); · ((try dsimp only) <;> simp only [h0, hst] <;> omega)) | (refine Ar.fit (wrap_u64 ?_ ?_) ?_; · ((try dsimp only) <;> simp only [h0, hst] <;> omega); · ((try dsimp only) <;> simp only [h0, hst] <;> omega)) | (refine AskL.mk ?_ ?_; · ((simp only [conj]; repeat' apply And.intro) <;> first | rfl | trivial | omega | (simp only [h0, hst]; done) | (simp only [h0, hst] <;> omega) | (simp only [h0, hst]; refine Bool.eq_iff_iff.2 ?_; simp only [decide_eq_true_eq, Bool.false_eq_true, true_iff, iff_true, false_iff, iff_false, eq_self]; omega) | (simp only [*, h0, hst]; done))) | refine L1 ?_ | refine K1 ?_ | (refine Ask.mk ?_ ?_; · ((try dsimp only) <;> simp only [h0, hst] <;> omega)) | (refine Y2 fun y he he' hy => ?_; (try dsimp only at he he' hy)) | (refine Y1 fun y he hy => ?_; (try with_reducible conv at he => (rhs; whnf)); (try dsimp only at he hy)) | (refine All'.mk ?_; intro y hy) | refine Q1 ?_ | fail)); all_goals (conv => whnf))
  · obtain rfl : j = padN s := by omega
    have heq : (s.size + padN s) % 8 = 7 := by rw [hpn]; omega
    have hjb : padN s ≤ 8 := by rw [hpn]; omega
    have hhi : padS s (padN s) ++ strOfNums [((s.size % 256 : Nat) : Int)] = hashIn s := rfl
    have hhs := hashIn_size s
    have hw8 : IntKind.u8.wrap ((s.size % 256 : Nat) : Int) = ((s.size % 256 : Nat) : Int) := wrap_u8 (by omega) (by omega)
    rw [heq] at hm
    have hm : (((padS s (padN s)).size : Nat) : Int).tmod 8 = 7 := hm
    have hm2 : ((((padS s (padN s)).size : Nat) : Int).tmod 8 != 7) = false := by rw [hm]; rfl
    ((repeat' ((conv => whnf) <;> first | exact True.intro | refine F1 ?_ | refine F2 ?_ | (refine Fork.pos ?_ ?_; · (simp only [hm, hm2, str_size, List.length_singleton, decide_eq_true_eq, beq_iff_eq, bne_iff_ne, ne_eq] <;> omega)) | (refine Fork.neg ?_ ?_; · (simp only [hm, hm2, str_size, List.length_singleton, decide_eq_false_iff_not, beq_eq_false_iff_ne] <;> omega)) | refine F3 (fun h => ?_) fun h => ?_ | refine F4 (fun h => ?_) fun h => ?_ | refine R1 ?_ | refine A1 ?_ | refine A2 ?_ | (refine Ar.fit (wrap_i64 ?_ ?_) ?_; · ((try dsimp only) <;> simp only [hm, hm2, str_size, List.length_singleton] <;> omega); · ((try dsimp only) <;> simp only [hm, hm2, str_size, List.length_singleton] <;> omega)) | (refine Ar.fit (wrap_u64 ?_ ?_) ?_; · ((try dsimp only) <;> simp only [hm, hm2, str_size, List.length_singleton] <;> omega); · ((try dsimp only) <;> simp only [hm, hm2, str_size, List.length_singleton] <;> omega)) | (refine AskL.mk ?_ ?_; · ((simp only [conj]; repeat' apply And.intro) <;> first | rfl | trivial | omega | (simp only [hm, hm2, str_size, List.length_singleton]; done) | (simp only [hm, hm2, str_size, List.length_singleton] <;> omega) | (simp only [hm, hm2, str_size, List.length_singleton]; refine Bool.eq_iff_iff.2 ?_; simp only [decide_eq_true_eq, Bool.false_eq_true, true_iff, iff_true, false_iff, iff_false, eq_self]; omega) | (simp only [*, hm, hm2, str_size, List.length_singleton]; done))) | refine L1 ?_ | refine K1 ?_ | (refine Ask.mk ?_ ?_; · ((try dsimp only) <;> simp only [hm, hm2, str_size, List.length_singleton] <;> omega)) | (refine Y2 fun y he he' hy => ?_; (try dsimp only at he he' hy)) | (refine Y1 fun y he hy => ?_; (try with_reducible conv at he => (rhs; whnf)); (try dsimp only at he hy)) | (refine All'.mk ?_; intro y hy) | refine Q1 ?_ | fail)); all_goals (conv => whnf))
    refine Some'.mk ⟨⟨bxor A 8317987319222330741, bxor B 7237128888997146477, bxor A 7816392313619706465, bxor B 8387220255154660723⟩, hashIn s⟩ ?_
    ((repeat' ((conv => whnf) <;> first | exact True.intro | refine F1 ?_ | refine F2 ?_ | (refine Fork.pos ?_ ?_; · (simp only [hw8, hhi, decide_eq_true_eq, beq_iff_eq, bne_iff_ne, ne_eq] <;> omega)) | (refine Fork.neg ?_ ?_; · (simp only [hw8, hhi, decide_eq_false_iff_not, beq_eq_false_iff_ne] <;> omega)) | refine F3 (fun h => ?_) fun h => ?_ | refine F4 (fun h => ?_) fun h => ?_ | refine R1 ?_ | refine A1 ?_ | refine A2 ?_ | (refine Ar.fit (wrap_i64 ?_ ?_) ?_; · ((try dsimp only) <;> simp only [hw8, hhi] <;> omega); · ((try dsimp only) <;> simp only [hw8, hhi] <;> omega)) | (refine Ar.fit (wrap_u64 ?_ ?_) ?_; · ((try dsimp only) <;> simp only [hw8, hhi] <;> omega); · ((try dsimp only) <;> simp only [hw8, hhi] <;> omega)) | (refine AskL.mk ?_ ?_; · ((simp only [conj]; repeat' apply And.intro) <;> first | rfl | trivial | omega | (simp only [hw8, hhi]; done) | (simp only [hw8, hhi] <;> omega) | (simp only [hw8, hhi]; refine Bool.eq_iff_iff.2 ?_; simp only [decide_eq_true_eq, Bool.false_eq_true, true_iff, iff_true, false_iff, iff_false, eq_self]; omega) | (simp only [*, hw8, hhi]; done))) | refine L1 ?_ | refine K1 ?_ | (refine Ask.mk ?_ ?_; · ((try dsimp only) <;> simp only [hw8, hhi] <;> omega)) | (refine Y2 fun y he he' hy => ?_; (try dsimp only at he he' hy)) | (refine Y1 fun y he hy => ?_; (try with_reducible conv at he => (rhs; whnf)); (try dsimp only at he hy)) | (refine All'.mk ?_; intro y hy) | refine Q1 ?_ | fail)); all_goals (conv => whnf))
    refine Ask.mk ⟨rfl, hhs.1, Nat.le_trans hhs.2 (show s.size + 8 ≤ 1000000000008 by omega)⟩ ?_
    clear hm hm2 hhi hhs hw8 heq hjb hsz hge h1 hn hpn h0
    ((repeat' ((conv => whnf) <;> first | exact True.intro | refine F1 ?_ | refine F2 ?_ | refine F3 (fun h => ?_) fun h => ?_ | refine F4 (fun h => ?_) fun h => ?_ | refine R1 ?_ | refine A1 ?_ | refine A2 ?_ | refine L1 ?_ | refine K1 ?_ | (refine Y2 fun y he he' hy => ?_; (try dsimp only at he he' hy)) | (refine Y1 fun y he hy => ?_; (try with_reducible conv at he => (rhs; whnf)); (try dsimp only at he hy)) | (refine All'.mk ?_; intro y hy) | refine Q1 ?_ | fail)); all_goals (conv => whnf))
    refine AllI.mk ?_
    rintro ⟨v, t⟩ ⟨h1, h2, h3⟩
    dsimp only at h1 h2 h3
    rcases Nat.eq_zero_or_pos t.size with hz | hp
    · have hv : hashV ⟨A, B, s⟩ = hashE v := by
        unfold hashV; rw [h1, hashF_end hz]
      obtain ⟨a, b, c, d⟩ := v
      have hz' : ((t.size : Nat) : Int) = 0 := by omega
      ((repeat' ((conv => whnf) <;> first | exact True.intro | refine F1 ?_ | refine F2 ?_ | refine F3 (fun h => ?_) fun h => ?_ | refine F4 (fun h => ?_) fun h => ?_ | refine R1 ?_ | refine A1 ?_ | refine A2 ?_ | refine L1 ?_ | refine K1 ?_ | (refine Y2 fun y he he' hy => ?_; (try dsimp only at he he' hy)) | (refine Y1 fun y he hy => ?_; (try with_reducible conv at he => (rhs; whnf)); (try dsimp only at he hy)) | (refine All'.mk ?_; intro y hy) | refine Q1 ?_ | fail)); all_goals (conv => whnf))
      refine CallP.mk (C := roundC) ⟨a, b, bxor c 255, d⟩ ?_
      ((repeat' ((conv => whnf) <;> first | exact True.intro | refine F1 ?_ | refine F2 ?_ | refine F3 (fun h => ?_) fun h => ?_ | refine F4 (fun h => ?_) fun h => ?_ | refine R1 ?_ | refine A1 ?_ | refine A2 ?_ | refine L1 ?_ | refine K1 ?_ | (refine Y2 fun y he he' hy => ?_; (try dsimp only at he he' hy)) | (refine Y1 fun y he hy => ?_; (try with_reducible conv at he => (rhs; whnf)); (try dsimp only at he hy)) | (refine All'.mk ?_; intro y hy) | refine Q1 ?_ | fail)); all_goals (conv => whnf))
      subst he
      ((repeat' ((conv => whnf) <;> first | exact True.intro | refine F1 ?_ | refine F2 ?_ | refine F3 (fun h => ?_) fun h => ?_ | refine F4 (fun h => ?_) fun h => ?_ | refine R1 ?_ | refine A1 ?_ | refine A2 ?_ | refine L1 ?_ | refine K1 ?_ | (refine Y2 fun y he he' hy => ?_; (try dsimp only at he he' hy)) | (refine Y1 fun y he hy => ?_; (try with_reducible conv at he => (rhs; whnf)); (try dsimp only at he hy)) | (refine All'.mk ?_; intro y hy) | refine Q1 ?_ | fail)); all_goals (conv => whnf))
      refine CallP.mk (C := roundC) (roundV ⟨a, b, bxor c 255, d⟩) ?_
      ((repeat' ((conv => whnf) <;> first | exact True.intro | refine F1 ?_ | refine F2 ?_ | refine F3 (fun h => ?_) fun h => ?_ | refine F4 (fun h => ?_) fun h => ?_ | refine R1 ?_ | refine A1 ?_ | refine A2 ?_ | refine L1 ?_ | refine K1 ?_ | (refine Y2 fun y he he' hy => ?_; (try dsimp only at he he' hy)) | (refine Y1 fun y he hy => ?_; (try with_reducible conv at he => (rhs; whnf)); (try dsimp only at he hy)) | (refine All'.mk ?_; intro y hy) | refine Q1 ?_ | fail)); all_goals (conv => whnf))
      subst he
      ((repeat' ((conv => whnf) <;> first | exact True.intro | refine F1 ?_ | refine F2 ?_ | refine F3 (fun h => ?_) fun h => ?_ | refine F4 (fun h => ?_) fun h => ?_ | refine R1 ?_ | refine A1 ?_ | refine A2 ?_ | refine L1 ?_ | refine K1 ?_ | (refine Y2 fun y he he' hy => ?_; (try dsimp only at he he' hy)) | (refine Y1 fun y he hy => ?_; (try with_reducible conv at he => (rhs; whnf)); (try dsimp only at he hy)) | (refine All'.mk ?_; intro y hy) | refine Q1 ?_ | fail)); all_goals (conv => whnf))
      refine CallP.mk (C := roundC) (roundV (roundV ⟨a, b, bxor c 255, d⟩)) ?_
      ((repeat' ((conv => whnf) <;> first | exact True.intro | refine F1 ?_ | refine F2 ?_ | refine F3 (fun h => ?_) fun h => ?_ | refine F4 (fun h => ?_) fun h => ?_ | refine R1 ?_ | refine A1 ?_ | refine A2 ?_ | refine L1 ?_ | refine K1 ?_ | (refine Y2 fun y he he' hy => ?_; (try dsimp only at he he' hy)) | (refine Y1 fun y he hy => ?_; (try with_reducible conv at he => (rhs; whnf)); (try dsimp only at he hy)) | (refine All'.mk ?_; intro y hy) | refine Q1 ?_ | fail)); all_goals (conv => whnf))
      subst he
      ((repeat' ((conv => whnf) <;> first | exact True.intro | refine F1 ?_ | refine F2 ?_ | refine F3 (fun h => ?_) fun h => ?_ | refine F4 (fun h => ?_) fun h => ?_ | refine R1 ?_ | refine A1 ?_ | refine A2 ?_ | refine L1 ?_ | refine K1 ?_ | (refine Y2 fun y he he' hy => ?_; (try dsimp only at he he' hy)) | (refine Y1 fun y he hy => ?_; (try with_reducible conv at he => (rhs; whnf)); (try dsimp only at he hy)) | (refine All'.mk ?_; intro y hy) | refine Q1 ?_ | fail)); all_goals (conv => whnf))
      refine CallP.mk (C := roundC) (roundV (roundV (roundV ⟨a, b, bxor c 255, d⟩))) ?_
      ((repeat' ((conv => whnf) <;> first | exact True.intro | refine F1 ?_ | refine F2 ?_ | refine F3 (fun h => ?_) fun h => ?_ | refine F4 (fun h => ?_) fun h => ?_ | refine R1 ?_ | refine A1 ?_ | refine A2 ?_ | refine K1 ?_ | (refine Y2 fun y he he' hy => ?_; (try dsimp only at he he' hy)) | (refine Y1 fun y he hy => ?_; (try with_reducible conv at he => (rhs; whnf)); (try dsimp only at he hy)) | (refine All'.mk ?_; intro y hy) | refine Q1 ?_ | fail)); all_goals (conv => whnf))
      refine AskL.mk ⟨⟨⟨rfl, rfl⟩, rfl⟩, rfl⟩ ?_
      ((repeat' ((conv => whnf) <;> first | exact True.intro | refine F1 ?_ | refine F2 ?_ | refine F3 (fun h => ?_) fun h => ?_ | refine F4 (fun h => ?_) fun h => ?_ | refine R1 ?_ | refine A1 ?_ | refine A2 ?_ | refine K1 ?_ | (refine Y2 fun y he he' hy => ?_; (try dsimp only at he he' hy)) | (refine Y1 fun y he hy => ?_; (try with_reducible conv at he => (rhs; whnf)); (try dsimp only at he hy)) | (refine All'.mk ?_; intro y hy) | refine Q1 ?_ | fail)); all_goals (conv => whnf))
      subst he
      ((repeat' ((conv => whnf) <;> first | exact True.intro | refine F1 ?_ | refine F2 ?_ | refine F3 (fun h => ?_) fun h => ?_ | refine F4 (fun h => ?_) fun h => ?_ | refine R1 ?_ | refine A1 ?_ | refine A2 ?_ | refine K1 ?_ | (refine Y2 fun y he he' hy => ?_; (try dsimp only at he he' hy)) | (refine Y1 fun y he hy => ?_; (try with_reducible conv at he => (rhs; whnf)); (try dsimp only at he hy)) | (refine All'.mk ?_; intro y hy) | refine Q1 ?_ | fail)); all_goals (conv => whnf))
      refine AskL.mk ?_ trivial
      exact hv.symm
    · have h8 : 8 ≤ t.size := by omega
      ((repeat' ((conv => whnf) <;> first | exact True.intro | refine F1 ?_ | refine F2 ?_ | refine F3 (fun h => ?_) fun h => ?_ | refine F4 (fun h => ?_) fun h => ?_ | refine R1 ?_ | refine A1 ?_ | refine A2 ?_ | refine L1 ?_ | refine K1 ?_ | (refine Y2 fun y he he' hy => ?_; (try dsimp only at he he' hy)) | (refine Y1 fun y he hy => ?_; (try with_reducible conv at he => (rhs; whnf)); (try dsimp only at he hy)) | (refine All'.mk ?_; intro y hy) | refine Q1 ?_ | fail)); all_goals (conv => whnf))
      refine Some'.mk ⟨v, t, 0, 8⟩ ?_
      ((repeat' ((conv => whnf) <;> first | exact True.intro | refine F1 ?_ | refine F2 ?_ | refine F3 (fun h => ?_) fun h => ?_ | refine F4 (fun h => ?_) fun h => ?_ | refine R1 ?_ | refine A1 ?_ | refine A2 ?_ | refine L1 ?_ | refine K1 ?_ | (refine Y2 fun y he he' hy => ?_; (try dsimp only at he he' hy)) | (refine Y1 fun y he hy => ?_; (try with_reducible conv at he => (rhs; whnf)); (try dsimp only at he hy)) | (refine All'.mk ?_; intro y hy) | refine Q1 ?_ | fail)); all_goals (conv => whnf))
      clear h8 h1 h2 h3
      refine AllI.mk ?_
      rintro ⟨v', t', w, i⟩ ⟨h1, h2, h3, h4, h5, h6, h7⟩
      dsimp only at h1 h2 h3 h4 h5 h6 h7
      cases i with
      | succ k =>
        have hik : (((k + 1 : Nat) : Int) - 1).toNat = k := by omega
        ((repeat' ((conv => whnf) <;> first | exact True.intro | refine F1 ?_ | refine F2 ?_ | (refine Fork.pos ?_ ?_; · (simp only [hik, decide_eq_true_eq, beq_iff_eq, bne_iff_ne, ne_eq] <;> omega)) | (refine Fork.neg ?_ ?_; · (simp only [hik, decide_eq_false_iff_not, beq_eq_false_iff_ne] <;> omega)) | refine F3 (fun h => ?_) fun h => ?_ | refine F4 (fun h => ?_) fun h => ?_ | refine R1 ?_ | refine A1 ?_ | refine A2 ?_ | (refine Ar.fit (wrap_i64 ?_ ?_) ?_; · ((try dsimp only) <;> simp only [hik] <;> omega); · ((try dsimp only) <;> simp only [hik] <;> omega)) | (refine Ar.fit (wrap_u64 ?_ ?_) ?_; · ((try dsimp only) <;> simp only [hik] <;> omega); · ((try dsimp only) <;> simp only [hik] <;> omega)) | (refine AskL.mk ?_ ?_; · ((simp only [conj]; repeat' apply And.intro) <;> first | rfl | trivial | omega | (simp only [hik]; done) | (simp only [hik] <;> omega) | (simp only [hik]; refine Bool.eq_iff_iff.2 ?_; simp only [decide_eq_true_eq, Bool.false_eq_true, true_iff, iff_true, false_iff, iff_false, eq_self]; omega) | (simp only [*, hik]; done))) | refine L1 ?_ | refine K1 ?_ | (refine Ask.mk ?_ ?_; · ((try dsimp only) <;> simp only [hik] <;> omega)) | (refine Y2 fun y he he' hy => ?_; (try dsimp only at he he' hy)) | (refine Y1 fun y he hy => ?_; (try with_reducible conv at he => (rhs; whnf)); (try dsimp only at he hy)) | (refine All'.mk ?_; intro y hy) | refine Q1 ?_ | fail)); all_goals (conv => whnf))
        refine Ar.wrap ?_
        ((repeat' ((conv => whnf) <;> first | exact True.intro | refine F1 ?_ | refine F2 ?_ | (refine Fork.pos ?_ ?_; · (simp only [hik, decide_eq_true_eq, beq_iff_eq, bne_iff_ne, ne_eq] <;> omega)) | (refine Fork.neg ?_ ?_; · (simp only [hik, decide_eq_false_iff_not, beq_eq_false_iff_ne] <;> omega)) | refine F3 (fun h => ?_) fun h => ?_ | refine F4 (fun h => ?_) fun h => ?_ | refine R1 ?_ | refine A1 ?_ | refine A2 ?_ | (refine Ar.fit (wrap_i64 ?_ ?_) ?_; · ((try dsimp only) <;> simp only [hik] <;> omega); · ((try dsimp only) <;> simp only [hik] <;> omega)) | (refine Ar.fit (wrap_u64 ?_ ?_) ?_; · ((try dsimp only) <;> simp only [hik] <;> omega); · ((try dsimp only) <;> simp only [hik] <;> omega)) | (refine AskL.mk ?_ ?_; · ((simp only [conj]; repeat' apply And.intro) <;> first | rfl | trivial | omega | (simp only [hik]; done) | (simp only [hik] <;> omega) | (simp only [hik]; refine Bool.eq_iff_iff.2 ?_; simp only [decide_eq_true_eq, Bool.false_eq_true, true_iff, iff_true, false_iff, iff_false, eq_self]; omega) | (simp only [*, hik]; done))) | refine L1 ?_ | refine K1 ?_ | (refine Ask.mk ?_ ?_; · ((try dsimp only) <;> simp only [hik] <;> omega)) | (refine Y2 fun y he he' hy => ?_; (try dsimp only at he he' hy)) | (refine Y1 fun y he hy => ?_; (try with_reducible conv at he => (rhs; whnf)); (try dsimp only at he hy)) | (refine All'.mk ?_; intro y hy) | refine Q1 ?_ | fail)); all_goals (conv => whnf))
        refine Ar.wrap ?_
        ((repeat' ((conv => whnf) <;> first | exact True.intro | refine F1 ?_ | refine F2 ?_ | (refine Fork.pos ?_ ?_; · (simp only [hik, decide_eq_true_eq, beq_iff_eq, bne_iff_ne, ne_eq] <;> omega)) | (refine Fork.neg ?_ ?_; · (simp only [hik, decide_eq_false_iff_not, beq_eq_false_iff_ne] <;> omega)) | refine F3 (fun h => ?_) fun h => ?_ | refine F4 (fun h => ?_) fun h => ?_ | refine R1 ?_ | refine A1 ?_ | refine A2 ?_ | (refine Ar.fit (wrap_i64 ?_ ?_) ?_; · ((try dsimp only) <;> simp only [hik] <;> omega); · ((try dsimp only) <;> simp only [hik] <;> omega)) | (refine Ar.fit (wrap_u64 ?_ ?_) ?_; · ((try dsimp only) <;> simp only [hik] <;> omega); · ((try dsimp only) <;> simp only [hik] <;> omega)) | (refine AskL.mk ?_ ?_; · ((simp only [conj]; repeat' apply And.intro) <;> first | rfl | trivial | omega | (simp only [hik]; done) | (simp only [hik] <;> omega) | (simp only [hik]; refine Bool.eq_iff_iff.2 ?_; simp only [decide_eq_true_eq, Bool.false_eq_true, true_iff, iff_true, false_iff, iff_false, eq_self]; omega) | (simp only [*, hik]; done))) | refine L1 ?_ | refine K1 ?_ | (refine Ask.mk ?_ ?_; · ((try dsimp only) <;> simp only [hik] <;> omega)) | (refine Y2 fun y he he' hy => ?_; (try dsimp only at he he' hy)) | (refine Y1 fun y he hy => ?_; (try with_reducible conv at he => (rhs; whnf)); (try dsimp only at he hy)) | (refine All'.mk ?_; intro y hy) | refine Q1 ?_ | fail)); all_goals (conv => whnf))
        refine Some'.mk ⟨v', t', IntKind.u64.wrap (IntKind.u64.wrap (w * 256) + IntKind.u64.wrap (byteAt t' k)), k⟩ ?_
        ((repeat' ((conv => whnf) <;> first | exact True.intro | refine F1 ?_ | refine F2 ?_ | (refine Fork.pos ?_ ?_; · (simp only [hik, decide_eq_true_eq, beq_iff_eq, bne_iff_ne, ne_eq] <;> omega)) | (refine Fork.neg ?_ ?_; · (simp only [hik, decide_eq_false_iff_not, beq_eq_false_iff_ne] <;> omega)) | refine F3 (fun h => ?_) fun h => ?_ | refine F4 (fun h => ?_) fun h => ?_ | refine R1 ?_ | refine A1 ?_ | refine A2 ?_ | (refine Ar.fit (wrap_i64 ?_ ?_) ?_; · ((try dsimp only) <;> simp only [hik] <;> omega); · ((try dsimp only) <;> simp only [hik] <;> omega)) | (refine Ar.fit (wrap_u64 ?_ ?_) ?_; · ((try dsimp only) <;> simp only [hik] <;> omega); · ((try dsimp only) <;> simp only [hik] <;> omega)) | (refine AskL.mk ?_ ?_; · ((simp only [conj]; repeat' apply And.intro) <;> first | rfl | trivial | omega | (simp only [hik]; done) | (simp only [hik] <;> omega) | (simp only [hik]; refine Bool.eq_iff_iff.2 ?_; simp only [decide_eq_true_eq, Bool.false_eq_true, true_iff, iff_true, false_iff, iff_false, eq_self]; omega) | (simp only [*, hik]; done))) | refine L1 ?_ | refine K1 ?_ | (refine Ask.mk ?_ ?_; · ((try dsimp only) <;> simp only [hik] <;> omega)) | (refine Y2 fun y he he' hy => ?_; (try dsimp only at he he' hy)) | (refine Y1 fun y he hy => ?_; (try with_reducible conv at he => (rhs; whnf)); (try dsimp only at he hy)) | (refine All'.mk ?_; intro y hy) | refine Q1 ?_ | fail)); all_goals (conv => whnf))
        refine Ask.mk ⟨h1, h2, h3, h4, h5, Nat.le_of_succ_le h6, h7⟩ ?_
        ((repeat' ((conv => whnf) <;> first | exact True.intro | refine F1 ?_ | refine F2 ?_ | (refine Fork.pos ?_ ?_; · (simp only [hik, decide_eq_true_eq, beq_iff_eq, bne_iff_ne, ne_eq] <;> omega)) | (refine Fork.neg ?_ ?_; · (simp only [hik, decide_eq_false_iff_not, beq_eq_false_iff_ne] <;> omega)) | refine F3 (fun h => ?_) fun h => ?_ | refine F4 (fun h => ?_) fun h => ?_ | refine R1 ?_ | refine A1 ?_ | refine A2 ?_ | (refine Ar.fit (wrap_i64 ?_ ?_) ?_; · ((try dsimp only) <;> simp only [hik] <;> omega); · ((try dsimp only) <;> simp only [hik] <;> omega)) | (refine Ar.fit (wrap_u64 ?_ ?_) ?_; · ((try dsimp only) <;> simp only [hik] <;> omega); · ((try dsimp only) <;> simp only [hik] <;> omega)) | (refine AskL.mk ?_ ?_; · ((simp only [conj]; repeat' apply And.intro) <;> first | rfl | trivial | omega | (simp only [hik]; done) | (simp only [hik] <;> omega) | (simp only [hik]; refine Bool.eq_iff_iff.2 ?_; simp only [decide_eq_true_eq, Bool.false_eq_true, true_iff, iff_true, false_iff, iff_false, eq_self]; omega) | (simp only [*, hik]; done))) | refine L1 ?_ | refine K1 ?_ | (refine Ask.mk ?_ ?_; · ((try dsimp only) <;> simp only [hik] <;> omega)) | (refine Y2 fun y he he' hy => ?_; (try dsimp only at he he' hy)) | (refine Y1 fun y he hy => ?_; (try with_reducible conv at he => (rhs; whnf)); (try dsimp only at he hy)) | (refine All'.mk ?_; intro y hy) | refine Q1 ?_ | fail)); all_goals (conv => whnf))
      | zero =>
        obtain ⟨a, b, c, d⟩ := v'
        have hcs := cut_size t'
        rw [hashF_step h4, h7] at h1
        ((repeat' ((conv => whnf) <;> first | exact True.intro | refine F1 ?_ | refine F2 ?_ | refine F3 (fun h => ?_) fun h => ?_ | refine F4 (fun h => ?_) fun h => ?_ | refine R1 ?_ | refine A1 ?_ | refine A2 ?_ | refine L1 ?_ | refine K1 ?_ | (refine Y2 fun y he he' hy => ?_; (try dsimp only at he he' hy)) | (refine Y1 fun y he hy => ?_; (try with_reducible conv at he => (rhs; whnf)); (try dsimp only at he hy)) | (refine All'.mk ?_; intro y hy) | refine Q1 ?_ | fail)); all_goals (conv => whnf))
        refine CallP.mk (C := roundC) ⟨a, b, c, bxor d w⟩ ?_
        ((repeat' ((conv => whnf) <;> first | exact True.intro | refine F1 ?_ | refine F2 ?_ | refine F3 (fun h => ?_) fun h => ?_ | refine F4 (fun h => ?_) fun h => ?_ | refine R1 ?_ | refine A1 ?_ | refine A2 ?_ | refine L1 ?_ | refine K1 ?_ | (refine Y2 fun y he he' hy => ?_; (try dsimp only at he he' hy)) | (refine Y1 fun y he hy => ?_; (try with_reducible conv at he => (rhs; whnf)); (try dsimp only at he hy)) | (refine All'.mk ?_; intro y hy) | refine Q1 ?_ | fail)); all_goals (conv => whnf))
        subst he
        ((repeat' ((conv => whnf) <;> first | exact True.intro | refine F1 ?_ | refine F2 ?_ | refine F3 (fun h => ?_) fun h => ?_ | refine F4 (fun h => ?_) fun h => ?_ | refine R1 ?_ | refine A1 ?_ | refine A2 ?_ | refine L1 ?_ | refine K1 ?_ | (refine Y2 fun y he he' hy => ?_; (try dsimp only at he he' hy)) | (refine Y1 fun y he hy => ?_; (try with_reducible conv at he => (rhs; whnf)); (try dsimp only at he hy)) | (refine All'.mk ?_; intro y hy) | refine Q1 ?_ | fail)); all_goals (conv => whnf))
        refine CallP.mk (C := roundC) (roundV ⟨a, b, c, bxor d w⟩) ?_
        ((repeat' ((conv => whnf) <;> first | exact True.intro | refine F1 ?_ | refine F2 ?_ | refine F3 (fun h => ?_) fun h => ?_ | refine F4 (fun h => ?_) fun h => ?_ | refine R1 ?_ | refine A1 ?_ | refine A2 ?_ | refine L1 ?_ | refine K1 ?_ | (refine Y2 fun y he he' hy => ?_; (try dsimp only at he he' hy)) | (refine Y1 fun y he hy => ?_; (try with_reducible conv at he => (rhs; whnf)); (try dsimp only at he hy)) | (refine All'.mk ?_; intro y hy) | refine Q1 ?_ | fail)); all_goals (conv => whnf))
        subst he
        ((repeat' ((conv => whnf) <;> first | exact True.intro | refine F1 ?_ | refine F2 ?_ | refine F3 (fun h => ?_) fun h => ?_ | refine F4 (fun h => ?_) fun h => ?_ | refine R1 ?_ | refine A1 ?_ | refine A2 ?_ | refine L1 ?_ | refine K1 ?_ | (refine Y2 fun y he he' hy => ?_; (try dsimp only at he he' hy)) | (refine Y1 fun y he hy => ?_; (try with_reducible conv at he => (rhs; whnf)); (try dsimp only at he hy)) | (refine All'.mk ?_; intro y hy) | refine Q1 ?_ | fail)); all_goals (conv => whnf))
        refine Some'.mk ⟨stepV ⟨a, b, c, d⟩ w, t'.extract 8 t'.size⟩ ?_
        ((repeat' ((conv => whnf) <;> first | exact True.intro | refine F1 ?_ | refine F2 ?_ | refine F3 (fun h => ?_) fun h => ?_ | refine F4 (fun h => ?_) fun h => ?_ | refine R1 ?_ | refine A1 ?_ | refine A2 ?_ | refine L1 ?_ | refine K1 ?_ | (refine Y2 fun y he he' hy => ?_; (try dsimp only at he he' hy)) | (refine Y1 fun y he hy => ?_; (try with_reducible conv at he => (rhs; whnf)); (try dsimp only at he hy)) | (refine All'.mk ?_; intro y hy) | refine Q1 ?_ | fail)); all_goals (conv => whnf))
        refine Ask.mk ⟨h1, by rw [hcs]; omega, by rw [hcs]; omega⟩ ?_
        have h5 : t'.size = t.size := h5
        ((repeat' ((conv => whnf) <;> first | exact True.intro | refine F1 ?_ | refine F2 ?_ | refine F3 (fun h => ?_) fun h => ?_ | refine F4 (fun h => ?_) fun h => ?_ | refine R1 ?_ | refine A1 ?_ | refine A2 ?_ | refine L1 ?_ | refine K1 ?_ | (refine Y2 fun y he he' hy => ?_; (try dsimp only at he he' hy)) | (refine Y1 fun y he hy => ?_; (try with_reducible conv at he => (rhs; whnf)); (try dsimp only at he hy)) | (refine All'.mk ?_; intro y hy) | refine Q1 ?_ | fail)); all_goals (conv => whnf))

end Go.Proofs.Ytdgemajcplbllaa
