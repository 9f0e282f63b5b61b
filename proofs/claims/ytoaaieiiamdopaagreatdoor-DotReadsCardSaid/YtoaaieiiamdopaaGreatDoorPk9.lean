/- Parts of the proof, one behind the other (TxtA, TxtB, TxtC, LibK, TxtD, TxtE). -/
import Derived.Test.YtoaaieiiamdopaaGreatDoorPk8
import Derived.Test.YtoaaieiiamdopaaGreatDoorChecked
import Derived.Shelf.Strings.Cut
import Derived.Lib.SmallJoins
set_option linter.unusedVariables false
set_option linter.unusedSimpArgs false
set_option linter.unusedSectionVars false
set_option linter.unusedVariables false
set_option linter.unusedSimpArgs false
set_option maxRecDepth 100000
set_option maxHeartbeats 4000000
namespace Go.Proofs.YtoaaieiiamdopaaGreatDoor
open Go.Eng
theorem byteAt_some {s : ByteArray} {i : Nat} (h : i < s.size) : (bytesL s)[i]? = some (byteAt s i) := by
  have h' : i < s.data.size := h
  unfold bytesL byteAt
  rw [List.getElem?_map, Array.getElem?_toList]
  have e : s[i]? = s.data[i]? := by
    rw [getElem?_pos s i h, getElem?_pos s.data i h']; rfl
  rw [e, getElem?_pos s.data i h']
  rfl
theorem byteAt_rng (s : ByteArray) (i : Nat) : 0 ≤ byteAt s i ∧ byteAt s i < 256 := by
  unfold byteAt
  split
  · rename_i b _
    have := b.toNat_lt
    omega
  · omega
def okB (l : List Int) : Prop := ∀ c, c ∈ l → 0 ≤ c ∧ c < 256
theorem bytesL_ok (s : ByteArray) : okB (bytesL s) := fun c hc => by
  obtain ⟨b, _, rfl⟩ := List.mem_map.1 hc
  have := b.toNat_lt
  omega
theorem bytes_str : ∀ {l : List Int}, okB l → bytesL (strOfNums l) = l := fun {l} h => by
  unfold bytesL
  rw [strOfNums_data, List.map_map]
  conv => rhs; rw [← List.map_id l]
  refine List.map_congr_left fun c hc => ?_
  obtain ⟨h1, h2⟩ := h c hc
  have : ((UInt8.ofNat c.toNat).toNat : Int) = c := by
    rw [UInt8.toNat_ofNat', Nat.mod_eq_of_lt (by omega)]; omega
  exact this
theorem str_inj {l l' : List Int} (h : okB l) (h' : okB l') : strOfNums l = strOfNums l' ↔ l = l' :=
  ⟨fun e => by rw [← bytes_str h, e, bytes_str h'], fun e => by rw [e]⟩
theorem bytes_inj {a b : ByteArray} (h : bytesL a = bytesL b) : a = b := by rw [← str_bytesL a, h, str_bytesL]
theorem okB_app {a b : List Int} (h : okB a) (h' : okB b) : okB (a ++ b) := fun c hc => (List.mem_append.1 hc).elim (h c) (h' c)
theorem okB_cons {c : Int} {l : List Int} (h : 0 ≤ c ∧ c < 256) (h' : okB l) : okB (c :: l) := fun x hx => by
  rcases List.mem_cons.1 hx with rfl | hx
  · exact h
  · exact h' x hx
theorem take_get {α : Type} {l : List α} {i : Nat} {c : α} (h : l[i]? = some c) : l.take (i + 1) = l.take i ++ [c] := by
  rw [List.take_add_one, h]; rfl


/-- A number's digits. -/
def decL (n : Nat) : List Int := if h : n < 10 then [48 + (n : Int)] else decL (n / 10) ++ [48 + ((n % 10 : Nat) : Int)]
termination_by n
decreasing_by omega
theorem decL_small {n : Nat} (h : n < 10) : decL n = [48 + (n : Int)] := by rw [decL, dif_pos h]
theorem decL_great {n : Nat} (h : ¬ n < 10) : decL n = decL (n / 10) ++ [48 + ((n % 10 : Nat) : Int)] := by rw [decL, dif_neg h]
theorem decL_dec (n : Nat) : (Lib.decDigits n).map (fun b => (b.toNat : Int)) = decL n := by
  induction n using Nat.strongRecOn with
  | _ n ih =>
    by_cases h : n < 10
    · rw [decL_small h, Lib.decDigits, dif_pos h]
      simp only [List.map_cons, List.map_nil, UInt8.toNat_ofNat']
      congr 1; omega
    · rw [decL_great h, Lib.decDigits, dif_neg h, List.map_append, ih (n / 10) (by omega)]
      simp only [List.map_cons, List.map_nil, UInt8.toNat_ofNat']
      congr 2; omega
theorem itoa_dec {n : Int} (h : 0 ≤ n) : itoaS n = strOfNums (decL n.toNat) := by
  obtain ⟨k, rfl⟩ := Int.eq_ofNat_of_zero_le h
  rw [itoaS_nat, ← str_bytesL (decS k)]
  show _ = strOfNums (decL k)
  rw [← decL_dec]; rfl
theorem decL_len : ∀ (k n : Nat), n < 10 ^ (k + 1) → (decL n).length ≤ k + 1
  | 0, n, h => by rw [decL_small (by omega)]; simp
  | k + 1, n, h => by
    by_cases h10 : n < 10
    · rw [decL_small h10]; simp
    · have := decL_len k (n / 10) (by rw [Nat.pow_succ] at h; omega)
      rw [decL_great h10, List.length_append, List.length_singleton]; omega

@[reducible] def digitsC : Ctr := {
  X := Int
  Y := Unit
  args := fun n => [.v (.int .i64 n)]
  rw := fun _ => []
  side := fun n => 0 ≤ n ∧ n ≤ 1099511627776
  val := fun _ => ()
  ens := fun _ _ => True
  res := fun n _ => .v (.string (strOfNums (decL n.toNat)))
  out := fun _ _ => [] }
structure DigS where
  m : Nat
  r : List Int
@[reducible] def digitsL (n : Int) : LA := {
  X := DigS
  pre := fun s => decL s.m ++ s.r = decL n.toNat ∧ s.m ≤ 1099511627776
  mu := fun s => s.m
  T := fun s => [(0, .v (.int .i64 (s.m : Nat))), (3, .v (.string (strOfNums s.r)))]
  M := fun _ => [] }
theorem digits_ok : digitsC.ok Tryz.prog 63 := by
  refine ok_of_vc (An := fun (n : Int) => anOf [(0, .loop (digitsL n))]) (known_nil _) mo Tryz.func63 (by kernel_rfl) (by kernel_rfl) (fun _ _ => trivial) (fun (n : Int) hs => ?_)
  obtain ⟨h0, h1⟩ : 0 ≤ n ∧ n ≤ 1099511627776 := hs
  have hlen := decL_len 12 n.toNat (by omega)
  ((repeat' ((conv => whnf) <;> first | exact True.intro | (guard_target =~ Fork _ _ _; first | refine F1 ?_ | refine F2 ?_ | refine F3 (fun h => ?_) fun h => ?_) | (guard_target =~ Ar _ _ _; first | refine A1 ?_ | refine A2 ?_ | refine A3 ?_) | (guard_target =~ AskL _ _; first | refine L1 ?_) | (guard_target =~ Go.Eng.Ask _ _; first | refine K1 ?_) | (guard_target =~ All' _ _; first | (refine Y2 fun y he he' hy => ?_; (try dsimp only at he he' hy)) | (refine Y1 fun y he hy => ?_; (try with_reducible conv at he => (rhs; whnf)); (try dsimp only at he hy)) | (refine All'.mk ?_; intro y hy)) | refine F4 (fun h => ?_) fun h => ?_ | refine R1 ?_ | refine Q1 ?_ | fail)); all_goals (conv => whnf))
  refine Some'.mk ⟨n.toNat, []⟩ ?_
  ((repeat' ((conv => whnf) <;> first | exact True.intro | (guard_target =~ Fork _ _ _; first | refine F1 ?_ | refine F2 ?_ | refine F3 (fun h => ?_) fun h => ?_) | (guard_target =~ Ar _ _ _; first | refine A1 ?_ | refine A2 ?_ | refine A3 ?_) | (guard_target =~ AskL _ _; first | refine L1 ?_) | (guard_target =~ Go.Eng.Ask _ _; first | refine K1 ?_) | (guard_target =~ All' _ _; first | (refine Y2 fun y he he' hy => ?_; (try dsimp only at he he' hy)) | (refine Y1 fun y he hy => ?_; (try with_reducible conv at he => (rhs; whnf)); (try dsimp only at he hy)) | (refine All'.mk ?_; intro y hy)) | refine F4 (fun h => ?_) fun h => ?_ | refine R1 ?_ | refine Q1 ?_ | fail)); all_goals (conv => whnf))
  refine Ask.mk ⟨List.append_nil _, by dsimp only; omega⟩ ?_
  ((repeat' ((conv => whnf) <;> first | exact True.intro | (guard_target =~ Fork _ _ _; first | refine F1 ?_ | refine F2 ?_ | refine F3 (fun h => ?_) fun h => ?_) | (guard_target =~ Ar _ _ _; first | refine A1 ?_ | refine A2 ?_ | refine A3 ?_) | (guard_target =~ AskL _ _; first | refine L1 ?_) | (guard_target =~ Go.Eng.Ask _ _; first | refine K1 ?_) | (guard_target =~ All' _ _; first | (refine Y2 fun y he he' hy => ?_; (try dsimp only at he he' hy)) | (refine Y1 fun y he hy => ?_; (try with_reducible conv at he => (rhs; whnf)); (try dsimp only at he hy)) | (refine All'.mk ?_; intro y hy)) | refine F4 (fun h => ?_) fun h => ?_ | refine R1 ?_ | refine Q1 ?_ | fail)); all_goals (conv => whnf))
  refine AllI.mk ?_
  rintro ⟨m, r⟩ ⟨hm, hb⟩
  dsimp only at hm hb
  have hrl : r.length ≤ 13 := by
    have := congrArg List.length hm
    rw [List.length_append] at this; omega
  have htm : ((m : Nat) : Int).tmod 10 = ((m % 10 : Nat) : Int) := (Int.ofNat_tmod m 10).symm
  have htd : ((m : Nat) : Int).tdiv 10 = ((m / 10 : Nat) : Int) := (Int.ofNat_tdiv m 10).symm
  by_cases h10 : m < 10
  · have e := decL_small h10
    have hw : IntKind.u8.wrap (48 + ((m : Nat) : Int)) = 48 + ((m : Nat) : Int) := wrap_u8 (by omega) (by omega)
    ((repeat' ((conv => whnf) <;> first | exact True.intro | (guard_target =~ Fork _ _ _; first | refine F1 ?_ | refine F2 ?_ | refine F3 (fun h => ?_) fun h => ?_) | (guard_target =~ Ar _ _ _; first | refine A1 ?_ | refine A2 ?_ | refine A3 ?_) | (guard_target =~ AskL _ _; first | refine L1 ?_) | (guard_target =~ Go.Eng.Ask _ _; first | refine K1 ?_) | (guard_target =~ All' _ _; first | (refine Y2 fun y he he' hy => ?_; (try dsimp only at he he' hy)) | (refine Y1 fun y he hy => ?_; (try with_reducible conv at he => (rhs; whnf)); (try dsimp only at he hy)) | (refine All'.mk ?_; intro y hy)) | refine F4 (fun h => ?_) fun h => ?_ | refine R1 ?_ | refine Q1 ?_ | fail)); all_goals (conv => whnf))
    refine Ask.mk (by simp only [str_size, List.length_cons, List.length_nil]; omega) ?_
    ((repeat' ((conv => whnf) <;> first | exact True.intro | (guard_target =~ Fork _ _ _; first | refine F1 ?_ | refine F2 ?_ | refine F3 (fun h => ?_) fun h => ?_) | (guard_target =~ Ar _ _ _; first | refine A1 ?_ | refine A2 ?_ | refine A3 ?_) | (guard_target =~ Go.Eng.Ask _ _; first | refine K1 ?_) | (guard_target =~ All' _ _; first | (refine Y2 fun y he he' hy => ?_; (try dsimp only at he he' hy)) | (refine Y1 fun y he hy => ?_; (try with_reducible conv at he => (rhs; whnf)); (try dsimp only at he hy)) | (refine All'.mk ?_; intro y hy)) | refine F4 (fun h => ?_) fun h => ?_ | refine R1 ?_ | refine Q1 ?_ | fail)); all_goals (conv => whnf))
    refine AskL.mk ?_ trivial
    simp only [conj, str_cat, hw]
    rw [← hm, e]
  · have e := decL_great h10
    have hw : IntKind.u8.wrap (48 + ((m % 10 : Nat) : Int)) = 48 + ((m % 10 : Nat) : Int) := wrap_u8 (by omega) (by omega)
    have lm := And.intro htm (And.intro htd hw)
    ((repeat' ((conv => whnf) <;> first | exact True.intro | (guard_target =~ Fork _ _ _; first | refine F1 ?_ | refine F2 ?_ | refine F3 (fun h => ?_) fun h => ?_) | (guard_target =~ Ar _ _ _; first | refine A1 ?_ | refine A2 ?_ | refine A3 ?_) | (guard_target =~ AskL _ _; first | refine L1 ?_) | (guard_target =~ Go.Eng.Ask _ _; first | refine K1 ?_) | (guard_target =~ All' _ _; first | (refine Y2 fun y he he' hy => ?_; (try dsimp only at he he' hy)) | (refine Y1 fun y he hy => ?_; (try with_reducible conv at he => (rhs; whnf)); (try dsimp only at he hy)) | (refine All'.mk ?_; intro y hy)) | refine F4 (fun h => ?_) fun h => ?_ | refine R1 ?_ | refine Q1 ?_ | fail)); all_goals (conv => whnf))
    refine Ask.mk (by simp only [str_size, List.length_cons, List.length_nil]; omega) ?_
    ((repeat' ((conv => whnf) <;> first | exact True.intro | (guard_target =~ Fork _ _ _; first | refine F1 ?_ | refine F2 ?_ | refine F3 (fun h => ?_) fun h => ?_) | (guard_target =~ Ar _ _ _; first | refine A1 ?_ | refine A2 ?_ | refine A3 ?_) | (guard_target =~ AskL _ _; first | refine L1 ?_) | (guard_target =~ Go.Eng.Ask _ _; first | refine K1 ?_) | (guard_target =~ All' _ _; first | (refine Y2 fun y he he' hy => ?_; (try dsimp only at he he' hy)) | (refine Y1 fun y he hy => ?_; (try with_reducible conv at he => (rhs; whnf)); (try dsimp only at he hy)) | (refine All'.mk ?_; intro y hy)) | refine F4 (fun h => ?_) fun h => ?_ | refine R1 ?_ | refine Q1 ?_ | fail)); all_goals (conv => whnf))
    refine Some'.mk ⟨m / 10, (48 + ((m % 10 : Nat) : Int)) :: r⟩ ?_
    ((repeat' ((conv => whnf) <;> first | exact True.intro | (guard_target =~ Fork _ _ _; first | refine F1 ?_ | refine F2 ?_ | refine F3 (fun h => ?_) fun h => ?_) | (guard_target =~ Ar _ _ _; first | refine A1 ?_ | refine A2 ?_ | refine A3 ?_) | (guard_target =~ Go.Eng.Ask _ _; first | refine K1 ?_) | (guard_target =~ All' _ _; first | (refine Y2 fun y he he' hy => ?_; (try dsimp only at he he' hy)) | (refine Y1 fun y he hy => ?_; (try with_reducible conv at he => (rhs; whnf)); (try dsimp only at he hy)) | (refine All'.mk ?_; intro y hy)) | refine F4 (fun h => ?_) fun h => ?_ | refine R1 ?_ | refine Q1 ?_ | fail)); all_goals (conv => whnf))
    refine AskL.mk ?_ ?_
    · simp only [conj, str_cat, htm, htd, hw]
      (repeat' apply And.intro) <;> first | rfl | trivial
    ((repeat' ((conv => whnf) <;> first | exact True.intro | (guard_target =~ Fork _ _ _; first | refine F1 ?_ | refine F2 ?_ | refine F3 (fun h => ?_) fun h => ?_) | (guard_target =~ Ar _ _ _; first | refine A1 ?_ | refine A2 ?_ | refine A3 ?_) | (guard_target =~ AskL _ _; first | refine L1 ?_) | (guard_target =~ Go.Eng.Ask _ _; first | refine K1 ?_) | (guard_target =~ All' _ _; first | (refine Y2 fun y he he' hy => ?_; (try dsimp only at he he' hy)) | (refine Y1 fun y he hy => ?_; (try with_reducible conv at he => (rhs; whnf)); (try dsimp only at he hy)) | (refine All'.mk ?_; intro y hy)) | refine F4 (fun h => ?_) fun h => ?_ | refine R1 ?_ | refine Q1 ?_ | fail)); all_goals (conv => whnf))
    refine Ask.mk ⟨by show decL (m / 10) ++ _ :: r = _; rw [← hm, e, List.append_assoc]; rfl, by dsimp only; omega⟩ ?_
    exact G1

def isD (c : Int) : Bool := decide (48 ≤ c ∧ c ≤ 57)
def numV (l : List Int) : Int := l.foldl (fun n c => n * 10 + (c - 48)) 0
theorem numV_snoc (l : List Int) (c : Int) : numV (l ++ [c]) = numV l * 10 + (c - 48) := by simp [numV]
def numOk (l : List Int) : Bool := decide (1 ≤ l.length ∧ l.length ≤ 18 ∧ ¬ (1 < l.length ∧ l[0]? = some 48)) && l.all isD
theorem numV_rng : ∀ (k : Nat) (l : List Int), l.length = k → l.all isD = true → 0 ≤ numV l ∧ numV l < 10 ^ k
  | 0, [], _, _ => by simp [numV]
  | k + 1, l, h, ha => by
    have hne : l ≠ [] := fun e => by rw [e] at h; simp at h
    have e := List.dropLast_concat_getLast hne
    rw [← e] at ha ⊢
    rw [List.all_append, Bool.and_eq_true] at ha
    have := numV_rng k l.dropLast (by rw [List.length_dropLast]; omega) ha.1
    have hc : isD (l.getLast hne) = true := by simpa using ha.2
    unfold isD at hc
    have hc := of_decide_eq_true hc
    rw [numV_snoc, Int.pow_succ]
    omega
  | 0, _ :: _, h, _ => by simp at h
@[reducible] def rNumTC : Ctr := {
  X := ByteArray
  Y := Unit
  args := fun s => [.v (.string s)]
  rw := fun _ => []
  side := fun s => s.size ≤ 100000000000
  val := fun _ => ()
  ens := fun _ _ => True
  res := fun s _ => .tuple [.v (.int .i64 (if numOk (bytesL s) then numV (bytesL s) else 0)), .v (.bool (numOk (bytesL s)))]
  out := fun _ _ => [] }
@[reducible] def rNumTL (s : ByteArray) : LA := {
  X := Nat
  pre := fun i => i ≤ s.size ∧ ((bytesL s).take i).all isD = true
  mu := fun i => s.size - i
  T := fun i => [(0, .v (.string s)), (4, .v (.int .i64 (numV ((bytesL s).take i)))), (5, .v (.int .i64 (i : Nat)))]
  M := fun _ => [] }
theorem num_not {l : List Int} (h : ¬ (1 ≤ l.length ∧ l.length ≤ 18 ∧ ¬ (1 < l.length ∧ l[0]? = some 48))) : numOk l = false := by
  unfold numOk; rw [decide_eq_false h, Bool.false_and]
theorem num_not2 {l : List Int} {i : Nat} {c : Int} (h : l[i]? = some c) (hc : isD c = false) : numOk l = false := by
  unfold numOk
  have : l.all isD = false := List.all_eq_false.2 ⟨c, List.mem_of_getElem? h, by simp [hc]⟩
  rw [this, Bool.and_false]
theorem pow_le18 {i : Nat} (h : i ≤ 17) : (10 : Int) ^ i ≤ 100000000000000000 := by
  have : (10 : Nat) ^ i ≤ 10 ^ 17 := Nat.pow_le_pow_right (by omega) h
  have e : ((10 ^ i : Nat) : Int) = (10 : Int) ^ i := by norm_cast
  omega
theorem rNumT_ok : rNumTC.ok Tryz.prog 58 := by
  refine ok_of_vc (An := fun (s : ByteArray) => anOf [(0, .loop (rNumTL s))]) (known_nil _) mo Tryz.func58 (by kernel_rfl) (by kernel_rfl) (fun _ _ => trivial) (fun (s : ByteArray) hs => ?_)
  have hs : s.size ≤ 100000000000 := hs
  have hbl := bytesL_length s
  by_cases hg : 1 ≤ (bytesL s).length ∧ (bytesL s).length ≤ 18 ∧ ¬ (1 < (bytesL s).length ∧ (bytesL s)[0]? = some 48)
  · rw [hbl] at hg
    have hb0 := byteAt_some (s := s) (i := 0) (by omega)
    rw [hb0] at hg
    have hg' : ¬ (1 < s.size ∧ byteAt s (Int.toNat 0) = 48) := fun hh => hg.2.2 ⟨hh.1, congrArg some hh.2⟩
    obtain ⟨hg1, hg2, -⟩ := hg
    ((repeat' ((conv => whnf) <;> first | exact True.intro | (guard_target =~ Fork _ _ _; first | refine F1 ?_ | refine F2 ?_ | refine F3 (fun h => ?_) fun h => ?_) | (guard_target =~ Ar _ _ _; first | refine A1 ?_ | refine A2 ?_ | refine A3 ?_) | (guard_target =~ AskL _ _; first | refine L1 ?_) | (guard_target =~ Go.Eng.Ask _ _; first | refine K1 ?_) | (guard_target =~ All' _ _; first | (refine Y2 fun y he he' hy => ?_; (try dsimp only at he he' hy)) | (refine Y1 fun y he hy => ?_; (try with_reducible conv at he => (rhs; whnf)); (try dsimp only at he hy)) | (refine All'.mk ?_; intro y hy)) | refine F4 (fun h => ?_) fun h => ?_ | refine R1 ?_ | refine Q1 ?_ | fail)); all_goals (conv => whnf))
    all_goals
      refine Some'.mk (0 : Nat) ?_
      ((repeat' ((conv => whnf) <;> first | exact True.intro | (guard_target =~ Fork _ _ _; first | refine F1 ?_ | refine F2 ?_ | refine F3 (fun h => ?_) fun h => ?_) | (guard_target =~ Ar _ _ _; first | refine A1 ?_ | refine A2 ?_ | refine A3 ?_) | (guard_target =~ AskL _ _; first | refine L1 ?_) | (guard_target =~ Go.Eng.Ask _ _; first | refine K1 ?_) | (guard_target =~ All' _ _; first | (refine Y2 fun y he he' hy => ?_; (try dsimp only at he he' hy)) | (refine Y1 fun y he hy => ?_; (try with_reducible conv at he => (rhs; whnf)); (try dsimp only at he hy)) | (refine All'.mk ?_; intro y hy)) | refine F4 (fun h => ?_) fun h => ?_ | refine R1 ?_ | refine Q1 ?_ | fail)); all_goals (conv => whnf))
      refine Ask.mk ⟨Nat.zero_le _, rfl⟩ ?_
      ((repeat' ((conv => whnf) <;> first | exact True.intro | (guard_target =~ Fork _ _ _; first | refine F1 ?_ | refine F2 ?_ | refine F3 (fun h => ?_) fun h => ?_) | (guard_target =~ Ar _ _ _; first | refine A1 ?_ | refine A2 ?_ | refine A3 ?_) | (guard_target =~ AskL _ _; first | refine L1 ?_) | (guard_target =~ Go.Eng.Ask _ _; first | refine K1 ?_) | (guard_target =~ All' _ _; first | (refine Y2 fun y he he' hy => ?_; (try dsimp only at he he' hy)) | (refine Y1 fun y he hy => ?_; (try with_reducible conv at he => (rhs; whnf)); (try dsimp only at he hy)) | (refine All'.mk ?_; intro y hy)) | refine F4 (fun h => ?_) fun h => ?_ | refine R1 ?_ | refine Q1 ?_ | fail)); all_goals (conv => whnf))
      refine AllI.mk ?_
      rintro (i : Nat) ⟨hi, hal⟩
      have hi : i ≤ s.size := hi
      have hal : ((bytesL s).take i).all isD = true := hal
      by_cases e : i = s.size
      · subst e
        have ht : (bytesL s).take s.size = bytesL s := by rw [← hbl]; exact List.take_length
        rw [ht] at hal
        have hok : numOk (bytesL s) = true := by
          unfold numOk
          rw [hal, Bool.and_true]
          refine decide_eq_true ⟨by omega, by omega, fun hh => hg' ⟨by omega, ?_⟩⟩
          have := hh.2
          rw [hb0] at this
          exact Option.some.inj this
        exact G1
      · have hc := byteAt_some (s := s) (i := i) (by omega)
        obtain ⟨c0, c1⟩ := byteAt_rng s i
        have hbi : byteAt s ((i : Nat) : Int).toNat = byteAt s i := rfl
        have hr := numV_rng i ((bytesL s).take i) (by rw [List.length_take]; omega) hal
        have hp := pow_le18 (i := i) (by omega)
        have ht := take_get hc
        by_cases hd : isD (byteAt s i) = true
        · have hd' : 48 ≤ byteAt s i ∧ byteAt s i ≤ 57 := of_decide_eq_true hd
          have hal' : ((bytesL s).take (i + 1)).all isD = true := by rw [ht, List.all_append, hal]; simpa using hd
          have hv := numV_snoc ((bytesL s).take i) (byteAt s i)
          rw [← ht] at hv
          have hw : IntKind.i64.wrap (byteAt s ((i : Nat) : Int).toNat - 48) = byteAt s i - 48 := wrap_i64 (by omega) (by omega)
          have lm := hw
          ((repeat' ((conv => whnf) <;> first | exact True.intro | (guard_target =~ Fork _ _ _; first | refine F1 ?_ | refine F2 ?_ | refine F3 (fun h => ?_) fun h => ?_) | (guard_target =~ Ar _ _ _; first | refine A1 ?_ | refine A2 ?_ | refine A3 ?_) | (guard_target =~ AskL _ _; first | refine L1 ?_) | (guard_target =~ Go.Eng.Ask _ _; first | refine K1 ?_) | (guard_target =~ All' _ _; first | (refine Y2 fun y he he' hy => ?_; (try dsimp only at he he' hy)) | (refine Y1 fun y he hy => ?_; (try with_reducible conv at he => (rhs; whnf)); (try dsimp only at he hy)) | (refine All'.mk ?_; intro y hy)) | refine F4 (fun h => ?_) fun h => ?_ | refine R1 ?_ | refine Q1 ?_ | fail)); all_goals (conv => whnf))
          refine Some'.mk (i + 1) ?_
          ((repeat' ((conv => whnf) <;> first | exact True.intro | (guard_target =~ Fork _ _ _; first | refine F1 ?_ | refine F2 ?_ | refine F3 (fun h => ?_) fun h => ?_) | (guard_target =~ Ar _ _ _; first | refine A1 ?_ | refine A2 ?_ | refine A3 ?_) | (guard_target =~ AskL _ _; first | refine L1 ?_) | (guard_target =~ Go.Eng.Ask _ _; first | refine K1 ?_) | (guard_target =~ All' _ _; first | (refine Y2 fun y he he' hy => ?_; (try dsimp only at he he' hy)) | (refine Y1 fun y he hy => ?_; (try with_reducible conv at he => (rhs; whnf)); (try dsimp only at he hy)) | (refine All'.mk ?_; intro y hy)) | refine F4 (fun h => ?_) fun h => ?_ | refine R1 ?_ | refine Q1 ?_ | fail)); all_goals (conv => whnf))
          refine Ask.mk ⟨by dsimp only; omega, hal'⟩ ?_
          exact G1
        · have hf : isD (byteAt s i) = false := by simpa using hd
          have hd' : ¬ (48 ≤ byteAt s i ∧ byteAt s i ≤ 57) := of_decide_eq_false hf
          have hno := num_not2 hc hf
          exact G1
  · have hno := num_not hg
    ((repeat' ((conv => whnf) <;> first | exact True.intro | (guard_target =~ Fork _ _ _; first | refine F1 ?_ | refine F2 ?_ | refine F3 (fun h => ?_) fun h => ?_) | (guard_target =~ Ar _ _ _; first | refine A1 ?_ | refine A2 ?_ | refine A3 ?_) | (guard_target =~ AskL _ _; first | refine L1 ?_) | (guard_target =~ Go.Eng.Ask _ _; first | refine K1 ?_) | (guard_target =~ All' _ _; first | (refine Y2 fun y he he' hy => ?_; (try dsimp only at he he' hy)) | (refine Y1 fun y he hy => ?_; (try with_reducible conv at he => (rhs; whnf)); (try dsimp only at he hy)) | (refine All'.mk ?_; intro y hy)) | refine F4 (fun h => ?_) fun h => ?_ | refine R1 ?_ | refine Q1 ?_ | fail)); all_goals (conv => whnf))
    exfalso
    refine hg ⟨by omega, by omega, fun hh => ?_⟩
    have h0 := byteAt_some (s := s) (i := 0) (by omega)
    rw [h0] at hh
    have h2 : byteAt s (Int.toNat 0) = 48 := Option.some.inj hh.2
    omega

/-- A list cut at each c. -/
def splitL (c : Int) : List Int → List (List Int)
  | [] => [[]]
  | b :: l => if b = c then [] :: splitL c l else match splitL c l with
    | [] => [[b]]
    | w :: ws => (b :: w) :: ws
theorem splitL_ne (c : Int) : ∀ l, splitL c l ≠ []
  | [] => by simp [splitL]
  | b :: l => by
    unfold splitL
    split
    · simp
    · split <;> simp
theorem splitL_len (c : Int) (l : List Int) : 0 < (splitL c l).length := List.length_pos_iff.2 (splitL_ne c l)
theorem splitL_le (c : Int) : ∀ l, (splitL c l).length ≤ l.length + 1
  | [] => by simp [splitL]
  | b :: l => by
    have := splitL_le c l
    unfold splitL
    split
    · simp only [List.length_cons]; omega
    · split
      · simp
      · rename_i h; rw [h] at this; simp only [List.length_cons] at this ⊢; omega
theorem splitL_mem (c : Int) : ∀ (l w : List Int), w ∈ splitL c l → w.length ≤ l.length ∧ ∀ x, x ∈ w → x ∈ l ∧ x ≠ c
  | [], w, h => by
    obtain rfl : w = [] := by simpa [splitL] using h
    exact ⟨Nat.le_refl _, fun x hx => by cases hx⟩
  | b :: l, w, h => by
    unfold splitL at h
    split at h
    · rcases List.mem_cons.1 h with rfl | h
      · exact ⟨Nat.zero_le _, fun x hx => by cases hx⟩
      · obtain ⟨h1, h2⟩ := splitL_mem c l w h
        exact ⟨by simp only [List.length_cons]; omega, fun x hx => ⟨List.mem_cons_of_mem _ (h2 x hx).1, (h2 x hx).2⟩⟩
    · rename_i hb
      split at h
      · rename_i he; exact absurd he (splitL_ne c l)
      · rename_i v vs he
        have ih := splitL_mem c l
        rw [he] at ih
        rcases List.mem_cons.1 h with rfl | h
        · obtain ⟨h1, h2⟩ := ih v (List.mem_cons_self ..)
          refine ⟨by simp only [List.length_cons]; omega, fun x hx => ?_⟩
          rcases List.mem_cons.1 hx with rfl | hx
          · exact ⟨List.mem_cons_self .., hb⟩
          · exact ⟨List.mem_cons_of_mem _ (h2 x hx).1, (h2 x hx).2⟩
        · obtain ⟨h1, h2⟩ := ih w (List.mem_cons_of_mem _ h)
          exact ⟨by simp only [List.length_cons]; omega, fun x hx => ⟨List.mem_cons_of_mem _ (h2 x hx).1, (h2 x hx).2⟩⟩
theorem splitL_cons_ne {c b : Int} {l w : List Int} {ws : List (List Int)} (hb : ¬ b = c) (h : splitL c l = w :: ws) : splitL c (b :: l) = (b :: w) :: ws := by
  rw [splitL, if_neg hb, h]
theorem splitL_free {c : Int} : ∀ {l : List Int}, c ∉ l → splitL c l = [l]
  | [], _ => rfl
  | b :: l, h => by
    have h1 : ¬ b = c := fun e => h (by rw [e]; exact List.mem_cons_self ..)
    exact splitL_cons_ne h1 (splitL_free (fun hc => h (List.mem_cons_of_mem _ hc)))
theorem splitL_sep (c : Int) : ∀ l, splitL c (l ++ [c]) = splitL c l ++ [[]]
  | [] => by simp [splitL]
  | b :: l => by
    have ih := splitL_sep c l
    by_cases hb : b = c
    · simp only [List.cons_append, splitL, if_pos hb, ih]
    · cases h : splitL c l with
      | nil => exact absurd h (splitL_ne c l)
      | cons w ws =>
        rw [h] at ih
        rw [List.cons_append, splitL_cons_ne hb h, splitL_cons_ne hb (ws := ws ++ [[]]) ih]
        rfl
theorem splitL_snoc {c x : Int} (hx : ¬ x = c) : ∀ (l : List Int) (w : List Int), (splitL c l)[(splitL c l).length - 1]? = some w → splitL c (l ++ [x]) = (splitL c l).set ((splitL c l).length - 1) (w ++ [x])
  | [], w, h => by
    obtain rfl : [] = w := by simpa [splitL] using h
    simp [splitL, hx]
  | b :: l, w, h => by
    by_cases hb : b = c
    · have e : splitL c (b :: l) = [] :: splitL c l := by rw [splitL, if_pos hb]
      have hp := splitL_len c l
      rw [e] at h ⊢
      rw [List.length_cons] at h ⊢
      obtain ⟨k, hk⟩ : ∃ k, (splitL c l).length = k + 1 := ⟨_, (Nat.succ_pred_eq_of_pos hp).symm⟩
      rw [hk] at h ⊢
      have ih := splitL_snoc hx l w (by rw [hk]; simpa using h)
      rw [hk] at ih
      rw [List.cons_append, splitL, if_pos hb, ih]
      rfl
    · cases hl : splitL c l with
      | nil => exact absurd hl (splitL_ne c l)
      | cons v ws =>
        have e := splitL_cons_ne hb hl
        rw [e] at h ⊢
        cases ws with
        | nil =>
          obtain rfl : b :: v = w := by simpa using h
          have ih := splitL_snoc hx l v (by rw [hl]; rfl)
          rw [hl] at ih
          rw [List.cons_append, splitL_cons_ne hb (w := v ++ [x]) (ws := []) (by rw [ih]; rfl)]
          rfl
        | cons u us =>
          have ih := splitL_snoc hx l w (by rw [hl]; simpa using h)
          rw [hl] at ih
          have ih' : splitL c (l ++ [x]) = v :: (u :: us).set us.length (w ++ [x]) := by rw [ih]; rfl
          rw [List.cons_append, splitL_cons_ne hb ih']
          rfl

structure SplX where
  s : ByteArray
  c : Int
@[reducible] def rSplitC : Ctr := {
  X := SplX
  Y := Unit
  args := fun x => [.v (.string x.s), .v (.int .u8 x.c)]
  rw := fun _ => []
  side := fun x => x.s.size ≤ 100000000000
  val := fun _ => ()
  ens := fun _ _ => True
  res := fun x _ => .ro false .str ((splitL x.c (bytesL x.s)).map strOfNums)
  out := fun _ _ => [] }
structure SplS where
  b : Bool
  i : Nat
@[reducible] def rSplitL (x : SplX) : LA := {
  X := SplS
  pre := fun s => s.i ≤ x.s.size ∧ (s.b = true ↔ x.c ∈ (bytesL x.s).take s.i)
  mu := fun s => x.s.size - s.i
  T := fun s => [(0, .v (.string x.s)), (1, .v (.int .u8 x.c)), (5, match s.b with | true => .sl 2 | false => .slc 2 0 1 1), (6, .v (.int .i64 (s.i : Nat)))]
  M := fun s => [(2, match s.b with | true => .row 9 .str ((splitL x.c ((bytesL x.s).take s.i)).map strOfNums) | false => .cells 9 [.v (.string (strOfNums ((bytesL x.s).take s.i)))])] }
theorem extract_at {s : ByteArray} {i : Nat} (h : i < s.size) : s.extract i (i + 1) = strOfNums [byteAt s i] := by
  apply bytes_inj
  obtain ⟨c0, c1⟩ := byteAt_rng s i
  rw [bytes_str (okB_cons ⟨c0, c1⟩ (fun _ h => by cases h))]
  have h' : i < s.data.toList.length := h
  have e : (s.extract i (i + 1)).data.toList = [s.data.toList[i]] := by
    simp only [ByteArray.data_extract, Array.toList_extract, List.extract_eq_take_drop]
    rw [show i + 1 - i = 1 by omega, List.drop_eq_getElem_cons h']; rfl
  have hc := byteAt_some h
  unfold bytesL at hc ⊢
  rw [e]
  rw [List.getElem?_map, List.getElem?_eq_getElem h'] at hc
  simpa using hc
theorem rSplit_ok : rSplitC.ok Tryz.prog 57 := by
  refine ok_of_vc (An := fun (x : SplX) => anOf [(0, .loop (rSplitL x))]) (known_nil _) mo Tryz.func57 (by kernel_rfl) (by kernel_rfl) (fun _ _ => trivial) (fun x hs => ?_)
  obtain ⟨s, c⟩ := x
  have hs : s.size ≤ 100000000000 := hs
  have hbl := bytesL_length s
  ((repeat' ((conv => whnf) <;> first | exact True.intro | (guard_target =~ Fork _ _ _; first | refine F1 ?_ | refine F2 ?_ | refine F3 (fun h => ?_) fun h => ?_) | (guard_target =~ Ar _ _ _; first | refine A1 ?_ | refine A2 ?_ | refine A3 ?_) | (guard_target =~ AskL _ _; first | refine L1 ?_) | (guard_target =~ Go.Eng.Ask _ _; first | refine K1 ?_) | (guard_target =~ All' _ _; first | (refine Y2 fun y he he' hy => ?_; (try dsimp only at he he' hy)) | (refine Y1 fun y he hy => ?_; (try with_reducible conv at he => (rhs; whnf)); (try dsimp only at he hy)) | (refine All'.mk ?_; intro y hy)) | refine F4 (fun h => ?_) fun h => ?_ | refine R1 ?_ | refine Q1 ?_ | fail)); all_goals (conv => whnf))
  refine Some'.mk ⟨false, 0⟩ ?_
  ((repeat' ((conv => whnf) <;> first | exact True.intro | (guard_target =~ Fork _ _ _; first | refine F1 ?_ | refine F2 ?_ | refine F3 (fun h => ?_) fun h => ?_) | (guard_target =~ Ar _ _ _; first | refine A1 ?_ | refine A2 ?_ | refine A3 ?_) | (guard_target =~ AskL _ _; first | refine L1 ?_) | (guard_target =~ Go.Eng.Ask _ _; first | refine K1 ?_) | (guard_target =~ All' _ _; first | (refine Y2 fun y he he' hy => ?_; (try dsimp only at he he' hy)) | (refine Y1 fun y he hy => ?_; (try with_reducible conv at he => (rhs; whnf)); (try dsimp only at he hy)) | (refine All'.mk ?_; intro y hy)) | refine F4 (fun h => ?_) fun h => ?_ | refine R1 ?_ | refine Q1 ?_ | fail)); all_goals (conv => whnf))
  refine Ask.mk ⟨Nat.zero_le _, by simp⟩ ?_
  ((repeat' ((conv => whnf) <;> first | exact True.intro | (guard_target =~ Fork _ _ _; first | refine F1 ?_ | refine F2 ?_ | refine F3 (fun h => ?_) fun h => ?_) | (guard_target =~ Ar _ _ _; first | refine A1 ?_ | refine A2 ?_ | refine A3 ?_) | (guard_target =~ AskL _ _; first | refine L1 ?_) | (guard_target =~ Go.Eng.Ask _ _; first | refine K1 ?_) | (guard_target =~ All' _ _; first | (refine Y2 fun y he he' hy => ?_; (try dsimp only at he he' hy)) | (refine Y1 fun y he hy => ?_; (try with_reducible conv at he => (rhs; whnf)); (try dsimp only at he hy)) | (refine All'.mk ?_; intro y hy)) | refine F4 (fun h => ?_) fun h => ?_ | refine R1 ?_ | refine Q1 ?_ | fail)); all_goals (conv => whnf))
  refine AllI.mk ?_
  rintro ⟨b, i⟩ ⟨hi, hmem⟩
  have hi : i ≤ s.size := hi
  have hmem : b = true ↔ c ∈ (bytesL s).take i := hmem
  by_cases e : i = s.size
  · subst e
    have ht : (bytesL s).take s.size = bytesL s := by rw [← hbl]; exact List.take_length
    cases b with
    | true =>
      exact G1
    | false =>
      have hfree : c ∉ bytesL s := fun hc => by
        rw [ht] at hmem
        exact absurd (hmem.2 hc) (by decide)
      have hsp := splitL_free hfree
      ((repeat' ((conv => whnf) <;> first | exact True.intro | (guard_target =~ Fork _ _ _; first | refine F1 ?_ | refine F2 ?_ | refine F3 (fun h => ?_) fun h => ?_) | (guard_target =~ Ar _ _ _; first | refine A1 ?_ | refine A2 ?_ | refine A3 ?_) | (guard_target =~ AskL _ _; first | refine L1 ?_) | (guard_target =~ Go.Eng.Ask _ _; first | refine K1 ?_) | (guard_target =~ All' _ _; first | (refine Y2 fun y he he' hy => ?_; (try dsimp only at he he' hy)) | (refine Y1 fun y he hy => ?_; (try with_reducible conv at he => (rhs; whnf)); (try dsimp only at he hy)) | (refine All'.mk ?_; intro y hy)) | refine F4 (fun h => ?_) fun h => ?_ | refine R1 ?_ | refine Q1 ?_ | fail)); all_goals (conv => whnf))
      rw [hsp]
      exact G1
  · have hc := byteAt_some (s := s) (i := i) (by omega)
    have hbi : byteAt s ((i : Nat) : Int).toNat = byteAt s i := rfl
    have ht := take_get hc
    have hle := splitL_le c ((bytesL s).take i)
    have hpos := splitL_len c ((bytesL s).take i)
    have hti : ((bytesL s).take i).length ≤ s.size := by rw [List.length_take]; omega
    have hml : (((splitL c ((bytesL s).take i)).map strOfNums).length : Int) = (splitL c ((bytesL s).take i)).length := by rw [List.length_map]
    have hx := extract_at (s := s) (i := i) (by omega)
    have hx' : s.extract ((i : Nat) : Int).toNat (((i : Nat) : Int) + 1).toNat = strOfNums [byteAt s i] := by rw [← hx]; rfl
    cases b with
    | true =>
      have hin := hmem.1 rfl
      ((repeat' ((conv => whnf) <;> first | exact True.intro | (guard_target =~ Fork _ _ _; first | refine F1 ?_ | refine F2 ?_ | refine F3 (fun h => ?_) fun h => ?_) | (guard_target =~ Ar _ _ _; first | refine A1 ?_ | refine A2 ?_ | refine A3 ?_) | (guard_target =~ AskL _ _; first | refine L1 ?_) | (guard_target =~ Go.Eng.Ask _ _; first | refine K1 ?_) | (guard_target =~ All' _ _; first | (refine Y2 fun y he he' hy => ?_; (try dsimp only at he he' hy)) | (refine Y1 fun y he hy => ?_; (try with_reducible conv at he => (rhs; whnf)); (try dsimp only at he hy))) | refine F4 (fun h => ?_) fun h => ?_ | refine R1 ?_ | refine Q1 ?_ | fail)); all_goals (conv => whnf))
      · refine Some'.mk ⟨true, i + 1⟩ ?_
        ((repeat' ((conv => whnf) <;> first | exact True.intro | (guard_target =~ Fork _ _ _; first | refine F1 ?_ | refine F2 ?_ | refine F3 (fun h => ?_) fun h => ?_) | (guard_target =~ Ar _ _ _; first | refine A1 ?_ | refine A2 ?_ | refine A3 ?_) | (guard_target =~ Go.Eng.Ask _ _; first | refine K1 ?_) | (guard_target =~ All' _ _; first | (refine Y2 fun y he he' hy => ?_; (try dsimp only at he he' hy)) | (refine Y1 fun y he hy => ?_; (try with_reducible conv at he => (rhs; whnf)); (try dsimp only at he hy)) | (refine All'.mk ?_; intro y hy)) | refine F4 (fun h => ?_) fun h => ?_ | refine R1 ?_ | refine Q1 ?_ | fail)); all_goals (conv => whnf))
        have hc' : byteAt s i = c := h
        refine AskL.mk ?_ ?_
        · simp only [conj]
          rw [ht, hc', splitL_sep, List.map_append]
          (repeat' apply And.intro) <;> first | rfl | trivial | omega
        ((repeat' ((conv => whnf) <;> first | exact True.intro | (guard_target =~ Fork _ _ _; first | refine F1 ?_ | refine F2 ?_ | refine F3 (fun h => ?_) fun h => ?_) | (guard_target =~ Ar _ _ _; first | refine A1 ?_ | refine A2 ?_ | refine A3 ?_) | (guard_target =~ AskL _ _; first | refine L1 ?_) | (guard_target =~ Go.Eng.Ask _ _; first | refine K1 ?_) | (guard_target =~ All' _ _; first | (refine Y2 fun y he he' hy => ?_; (try dsimp only at he he' hy)) | (refine Y1 fun y he hy => ?_; (try with_reducible conv at he => (rhs; whnf)); (try dsimp only at he hy)) | (refine All'.mk ?_; intro y hy)) | refine F4 (fun h => ?_) fun h => ?_ | refine R1 ?_ | refine Q1 ?_ | fail)); all_goals (conv => whnf))
        refine Ask.mk ⟨by dsimp only; omega, fun _ => ?_, fun _ => rfl⟩ ?_
        · show c ∈ (bytesL s).take (i + 1)
          rw [ht]; exact List.mem_append_left _ hin
        exact G1
      · refine All'.mk ?_; rintro (y : ByteArray) hy
        have hy : ((splitL c ((bytesL s).take i)).map strOfNums)[(splitL c ((bytesL s).take i)).length - 1]? = some y := by
          rw [← hy]; congr 1
          show _ = ((((splitL c ((bytesL s).take i)).map strOfNums).length : Int) - 1).toNat
          rw [List.length_map]; omega
        obtain ⟨w, hw, rfl⟩ : ∃ w, (splitL c ((bytesL s).take i))[(splitL c ((bytesL s).take i)).length - 1]? = some w ∧ strOfNums w = y := by
          rw [List.getElem?_map] at hy
          obtain ⟨w, h1, h2⟩ := Option.map_eq_some_iff.1 hy
          exact ⟨w, h1, h2⟩
        have hwl := (splitL_mem c _ w (List.mem_of_getElem? hw)).1
        ((repeat' ((conv => whnf) <;> first | exact True.intro | (guard_target =~ Fork _ _ _; first | refine F1 ?_ | refine F2 ?_ | refine F3 (fun h => ?_) fun h => ?_) | (guard_target =~ Ar _ _ _; first | refine A1 ?_ | refine A2 ?_ | refine A3 ?_) | (guard_target =~ AskL _ _; first | refine L1 ?_) | (guard_target =~ Go.Eng.Ask _ _; first | refine K1 ?_) | (guard_target =~ All' _ _; first | (refine Y2 fun y he he' hy => ?_; (try dsimp only at he he' hy)) | (refine Y1 fun y he hy => ?_; (try with_reducible conv at he => (rhs; whnf)); (try dsimp only at he hy)) | (refine All'.mk ?_; intro y hy)) | refine F4 (fun h => ?_) fun h => ?_ | refine R1 ?_ | refine Q1 ?_ | fail)); all_goals (conv => whnf))
        refine Ask.mk ?_ ?_
        · rw [hx']; simp only [str_size, List.length_cons, List.length_nil]; omega
        ((repeat' ((conv => whnf) <;> first | exact True.intro | (guard_target =~ Fork _ _ _; first | refine F1 ?_ | refine F2 ?_ | refine F3 (fun h => ?_) fun h => ?_) | (guard_target =~ Ar _ _ _; first | refine A1 ?_ | refine A2 ?_ | refine A3 ?_) | (guard_target =~ AskL _ _; first | refine L1 ?_) | (guard_target =~ Go.Eng.Ask _ _; first | refine K1 ?_) | (guard_target =~ All' _ _; first | (refine Y2 fun y he he' hy => ?_; (try dsimp only at he he' hy)) | (refine Y1 fun y he hy => ?_; (try with_reducible conv at he => (rhs; whnf)); (try dsimp only at he hy)) | (refine All'.mk ?_; intro y hy)) | refine F4 (fun h => ?_) fun h => ?_ | refine R1 ?_ | refine Q1 ?_ | fail)); all_goals (conv => whnf))
        refine Some'.mk (strOfNums (w ++ [byteAt s i])) ?_
        have hcat : strOfNums w ++ s.extract ((i : Nat) : Int).toNat (((i : Nat) : Int) + 1).toNat = strOfNums (w ++ [byteAt s i]) := by rw [hx', str_cat]
        refine Eqn.mk (by show some [SV.v (.string (strOfNums w ++ s.extract ((i : Nat) : Int).toNat (((i : Nat) : Int) + 1).toNat))] = _; rw [hcat]; rfl) ?_
        ((repeat' ((conv => whnf) <;> first | exact True.intro | (guard_target =~ Fork _ _ _; first | refine F1 ?_ | refine F2 ?_ | refine F3 (fun h => ?_) fun h => ?_) | (guard_target =~ Ar _ _ _; first | refine A1 ?_ | refine A2 ?_ | refine A3 ?_) | (guard_target =~ AskL _ _; first | refine L1 ?_) | (guard_target =~ Go.Eng.Ask _ _; first | refine K1 ?_) | (guard_target =~ All' _ _; first | (refine Y2 fun y he he' hy => ?_; (try dsimp only at he he' hy)) | (refine Y1 fun y he hy => ?_; (try with_reducible conv at he => (rhs; whnf)); (try dsimp only at he hy)) | (refine All'.mk ?_; intro y hy)) | refine F4 (fun h => ?_) fun h => ?_ | refine R1 ?_ | refine Q1 ?_ | fail)); all_goals (conv => whnf))
        refine Some'.mk ⟨true, i + 1⟩ ?_
        have hc' : ¬ byteAt s i = c := h
        have hsn := splitL_snoc hc' _ w hw
        ((repeat' ((conv => whnf) <;> first | exact True.intro | (guard_target =~ Fork _ _ _; first | refine F1 ?_ | refine F2 ?_ | refine F3 (fun h => ?_) fun h => ?_) | (guard_target =~ Ar _ _ _; first | refine A1 ?_ | refine A2 ?_ | refine A3 ?_) | (guard_target =~ Go.Eng.Ask _ _; first | refine K1 ?_) | (guard_target =~ All' _ _; first | (refine Y2 fun y he he' hy => ?_; (try dsimp only at he he' hy)) | (refine Y1 fun y he hy => ?_; (try with_reducible conv at he => (rhs; whnf)); (try dsimp only at he hy)) | (refine All'.mk ?_; intro y hy)) | refine F4 (fun h => ?_) fun h => ?_ | refine R1 ?_ | refine Q1 ?_ | fail)); all_goals (conv => whnf))
        refine AskL.mk ?_ ?_
        · have hrow : ((splitL c ((bytesL s).take i)).map strOfNums).set (((((splitL c ((bytesL s).take i)).map strOfNums).length : Nat) : Int) - 1).toNat (strOfNums (w ++ [byteAt s i])) = (splitL c ((bytesL s).take (i + 1))).map strOfNums := by
            rw [ht, hsn, List.map_set]
            congr 1
            rw [List.length_map]; omega
          exact ⟨⟨⟨rfl, rfl⟩, by show ((i : Nat) : Int) + 1 = ((i + 1 : Nat) : Int); omega⟩, congrArg (SV.ro true Ty.str) hrow⟩
        ((repeat' ((conv => whnf) <;> first | exact True.intro | (guard_target =~ Fork _ _ _; first | refine F1 ?_ | refine F2 ?_ | refine F3 (fun h => ?_) fun h => ?_) | (guard_target =~ Ar _ _ _; first | refine A1 ?_ | refine A2 ?_ | refine A3 ?_) | (guard_target =~ AskL _ _; first | refine L1 ?_) | (guard_target =~ Go.Eng.Ask _ _; first | refine K1 ?_) | (guard_target =~ All' _ _; first | (refine Y2 fun y he he' hy => ?_; (try dsimp only at he he' hy)) | (refine Y1 fun y he hy => ?_; (try with_reducible conv at he => (rhs; whnf)); (try dsimp only at he hy)) | (refine All'.mk ?_; intro y hy)) | refine F4 (fun h => ?_) fun h => ?_ | refine R1 ?_ | refine Q1 ?_ | fail)); all_goals (conv => whnf))
        refine Ask.mk ⟨by dsimp only; omega, fun _ => ?_, fun _ => rfl⟩ ?_
        · show c ∈ (bytesL s).take (i + 1)
          rw [ht]; exact List.mem_append_left _ hin
        exact G1
    | false =>
      have hfree : c ∉ (bytesL s).take i := fun hc => absurd (hmem.2 hc) (by decide)
      have hsp := splitL_free hfree
      ((repeat' ((conv => whnf) <;> first | exact True.intro | (guard_target =~ Fork _ _ _; first | refine F1 ?_ | refine F2 ?_ | refine F3 (fun h => ?_) fun h => ?_) | (guard_target =~ Ar _ _ _; first | refine A1 ?_ | refine A2 ?_ | refine A3 ?_) | (guard_target =~ AskL _ _; first | refine L1 ?_) | (guard_target =~ Go.Eng.Ask _ _; first | refine K1 ?_) | (guard_target =~ All' _ _; first | (refine Y2 fun y he he' hy => ?_; (try dsimp only at he he' hy)) | (refine Y1 fun y he hy => ?_; (try with_reducible conv at he => (rhs; whnf)); (try dsimp only at he hy)) | (refine All'.mk ?_; intro y hy)) | refine F4 (fun h => ?_) fun h => ?_ | refine R1 ?_ | refine Q1 ?_ | fail)); all_goals (conv => whnf))
      · refine Some'.mk ⟨true, i + 1⟩ ?_
        ((repeat' ((conv => whnf) <;> first | exact True.intro | (guard_target =~ Fork _ _ _; first | refine F1 ?_ | refine F2 ?_ | refine F3 (fun h => ?_) fun h => ?_) | (guard_target =~ Ar _ _ _; first | refine A1 ?_ | refine A2 ?_ | refine A3 ?_) | (guard_target =~ Go.Eng.Ask _ _; first | refine K1 ?_) | (guard_target =~ All' _ _; first | (refine Y2 fun y he he' hy => ?_; (try dsimp only at he he' hy)) | (refine Y1 fun y he hy => ?_; (try with_reducible conv at he => (rhs; whnf)); (try dsimp only at he hy)) | (refine All'.mk ?_; intro y hy)) | refine F4 (fun h => ?_) fun h => ?_ | refine R1 ?_ | refine Q1 ?_ | fail)); all_goals (conv => whnf))
        have hc' : byteAt s i = c := h
        refine AskL.mk ?_ ?_
        · simp only [conj]
          rw [ht, hc', splitL_sep, hsp]
          (repeat' apply And.intro) <;> first | rfl | trivial | omega
        ((repeat' ((conv => whnf) <;> first | exact True.intro | (guard_target =~ Fork _ _ _; first | refine F1 ?_ | refine F2 ?_ | refine F3 (fun h => ?_) fun h => ?_) | (guard_target =~ Ar _ _ _; first | refine A1 ?_ | refine A2 ?_ | refine A3 ?_) | (guard_target =~ AskL _ _; first | refine L1 ?_) | (guard_target =~ Go.Eng.Ask _ _; first | refine K1 ?_) | (guard_target =~ All' _ _; first | (refine Y2 fun y he he' hy => ?_; (try dsimp only at he he' hy)) | (refine Y1 fun y he hy => ?_; (try with_reducible conv at he => (rhs; whnf)); (try dsimp only at he hy)) | (refine All'.mk ?_; intro y hy)) | refine F4 (fun h => ?_) fun h => ?_ | refine R1 ?_ | refine Q1 ?_ | fail)); all_goals (conv => whnf))
        refine Ask.mk ⟨by dsimp only; omega, fun _ => ?_, fun _ => rfl⟩ ?_
        · show c ∈ (bytesL s).take (i + 1)
          rw [ht, hc']; exact List.mem_append_right _ (List.mem_cons_self ..)
        exact G1
      · rw [hx']
        refine Ask.mk ?_ ?_
        · simp only [str_size, List.length_cons, List.length_nil]; omega
        ((repeat' ((conv => whnf) <;> first | exact True.intro | (guard_target =~ Fork _ _ _; first | refine F1 ?_ | refine F2 ?_ | refine F3 (fun h => ?_) fun h => ?_) | (guard_target =~ Ar _ _ _; first | refine A1 ?_ | refine A2 ?_ | refine A3 ?_) | (guard_target =~ AskL _ _; first | refine L1 ?_) | (guard_target =~ Go.Eng.Ask _ _; first | refine K1 ?_) | (guard_target =~ All' _ _; first | (refine Y2 fun y he he' hy => ?_; (try dsimp only at he he' hy)) | (refine Y1 fun y he hy => ?_; (try with_reducible conv at he => (rhs; whnf)); (try dsimp only at he hy)) | (refine All'.mk ?_; intro y hy)) | refine F4 (fun h => ?_) fun h => ?_ | refine R1 ?_ | refine Q1 ?_ | fail)); all_goals (conv => whnf))
        refine Some'.mk ⟨false, i + 1⟩ ?_
        ((repeat' ((conv => whnf) <;> first | exact True.intro | (guard_target =~ Fork _ _ _; first | refine F1 ?_ | refine F2 ?_ | refine F3 (fun h => ?_) fun h => ?_) | (guard_target =~ Ar _ _ _; first | refine A1 ?_ | refine A2 ?_ | refine A3 ?_) | (guard_target =~ Go.Eng.Ask _ _; first | refine K1 ?_) | (guard_target =~ All' _ _; first | (refine Y2 fun y he he' hy => ?_; (try dsimp only at he he' hy)) | (refine Y1 fun y he hy => ?_; (try with_reducible conv at he => (rhs; whnf)); (try dsimp only at he hy)) | (refine All'.mk ?_; intro y hy)) | refine F4 (fun h => ?_) fun h => ?_ | refine R1 ?_ | refine Q1 ?_ | fail)); all_goals (conv => whnf))
        refine AskL.mk ?_ ?_
        · simp only [conj]
          rw [ht, str_cat]
          (repeat' apply And.intro) <;> first | rfl | trivial | omega
        ((repeat' ((conv => whnf) <;> first | exact True.intro | (guard_target =~ Fork _ _ _; first | refine F1 ?_ | refine F2 ?_ | refine F3 (fun h => ?_) fun h => ?_) | (guard_target =~ Ar _ _ _; first | refine A1 ?_ | refine A2 ?_ | refine A3 ?_) | (guard_target =~ AskL _ _; first | refine L1 ?_) | (guard_target =~ Go.Eng.Ask _ _; first | refine K1 ?_) | (guard_target =~ All' _ _; first | (refine Y2 fun y he he' hy => ?_; (try dsimp only at he he' hy)) | (refine Y1 fun y he hy => ?_; (try with_reducible conv at he => (rhs; whnf)); (try dsimp only at he hy)) | (refine All'.mk ?_; intro y hy)) | refine F4 (fun h => ?_) fun h => ?_ | refine R1 ?_ | refine Q1 ?_ | fail)); all_goals (conv => whnf))
        have hc' : ¬ byteAt s i = c := h
        refine Ask.mk ⟨by dsimp only; omega, fun hh => Bool.noConfusion hh, fun hh => ?_⟩ ?_
        · have hh : c ∈ (bytesL s).take (i + 1) := hh
          rw [ht] at hh
          rcases List.mem_append.1 hh with hh | hh
          · exact absurd hh hfree
          · exact absurd (List.mem_singleton.1 hh).symm hc'
        exact G1

abbrev toI (l : List UInt8) : List Int := l.map fun b => (b.toNat : Int)
theorem toI_inj {b c : UInt8} : ((b.toNat : Int) = (c.toNat : Int)) ↔ b = c := ⟨fun h => UInt8.toNat_inj.1 (by omega), fun h => by rw [h]⟩
theorem splitK_L (c : UInt8) : ∀ l : List UInt8, (Lib.splitK [c] 0 (Lib.count l [c]) l).map toI = splitL (c.toNat : Int) (toI l)
  | [] => by
    rw [Lib.count_miss (by simp [Lib.index])]
    rfl
  | b :: l => by
    have ih := splitK_L c l
    by_cases h : b = c
    · subst h
      rw [Lib.count_cons_eq, Nat.add_comm, Lib.splitK]
      have hix : Lib.index (b :: l) [b] = 0 := by rw [Lib.index]; simp [List.isPrefixOf]
      rw [hix]
      simp only [toI, List.map_cons]
      rw [splitL, if_pos rfl, ← ih]
      rfl
    · have hp : ([c] : List UInt8).isPrefixOf (b :: l) = false := by simp [List.isPrefixOf, Ne.symm h]
      have hix : Lib.index (b :: l) [c] = if Lib.index l [c] == -1 then -1 else Lib.index l [c] + 1 := by rw [Lib.index, hp]; simp
      have hb : ¬ ((b.toNat : Int) = (c.toNat : Int)) := fun e => h (toI_inj.1 e)
      rw [Lib.count_cons_ne _ _ _ h]
      simp only [toI, List.map_cons]
      cases hk : Lib.count l [c] with
      | zero =>
        rw [hk] at ih
        rw [splitL_cons_ne hb (w := toI l) (ws := []) ih.symm]
        rfl
      | succ k =>
        rw [hk] at ih
        rw [Lib.splitK] at ih ⊢
        by_cases hm : Lib.index l [c] = -1
        · rw [hm] at ih hix
          rw [hix]
          rw [splitL_cons_ne hb (w := toI l) (ws := []) ih.symm]
          rfl
        · have hge := Lib.index_ge l [c]
          obtain ⟨j, hj⟩ : ∃ j : Nat, Lib.index l [c] = j := ⟨(Lib.index l [c]).toNat, by omega⟩
          have hnb : (Lib.index l [c] == -1) = false := by simpa using hm
          rw [hnb] at ih hix
          rw [hix]
          have h2 : ((if false = true then (-1 : Int) else Lib.index l [c] + 1) == -1) = false := by simp; omega
          rw [h2]
          simp only [Bool.false_eq_true, if_false] at ih ⊢
          rw [hj] at ih ⊢
          have e1 : ((j : Int) + 1).toNat = j + 1 := by omega
          have e2 : ((j : Int)).toNat = j := by omega
          rw [e1]
          rw [e2] at ih
          rw [List.map_cons] at ih
          rw [splitL_cons_ne hb ih.symm, List.map_cons]
          simp only [List.length_singleton, Nat.add_zero, List.take_succ_cons, List.drop_succ_cons, List.map_cons, toI]
theorem map_strs : ∀ (l : List ByteArray), l = ((l.map (·.data.toList)).map toI).map strOfNums
  | [] => rfl
  | s :: l => by
    rw [List.map_cons, List.map_cons, List.map_cons, ← map_strs l]
    congr 1
    exact (str_bytesL s).symm
theorem splitS_L (c : UInt8) (s : ByteArray) : splitS s ⟨#[c]⟩ = (splitL (c.toNat : Int) (bytesL s)).map strOfNums := by
  rw [map_strs (splitS s ⟨#[c]⟩)]
  unfold splitS
  rw [Lib.splitB_data]
  have : Lib.countB s ⟨#[c]⟩ = Lib.count s.data.toList [c] := rfl
  rw [this]
  exact congrArg (List.map strOfNums) (splitK_L c s.data.toList)
end Go.Proofs.YtoaaieiiamdopaaGreatDoor

set_option linter.unusedVariables false
set_option linter.unusedSimpArgs false
set_option maxRecDepth 100000
set_option maxHeartbeats 4000000
namespace Go.Proofs.YtoaaieiiamdopaaGreatDoor
open Go.Eng
theorem right_runs : ∀ {c : List Run} {p : Option Run}, rightFrom p c = true → ∀ {i : Nat} {r : Run}, c[i]? = some r → runP r
  | [], _, _, _, _, h => by simp at h
  | x :: l, p, hr, 0, r, h => by
    simp only [rightFrom, Bool.and_eq_true] at hr
    obtain rfl : x = r := by simpa using h
    exact of_decide_eq_true hr.1.1
  | x :: l, p, hr, i + 1, r, h => by
    simp only [rightFrom, Bool.and_eq_true] at hr
    exact right_runs hr.2 (i := i) (by simpa using h)
/-- A run's word. -/
def runW (r : Run) : List Int := decL r.1.toNat ++ [58] ++ decL r.2.1.toNat ++ (if r.2.1 < r.2.2 then [45] ++ decL r.2.2.toNat else [])
def spT (ws : List (List Int)) : List Int := (ws.map (32 :: ·)).flatten
/-- Words with blanks between. -/
def spc : List (List Int) → List Int
  | [] => []
  | w :: ws => w ++ spT ws
theorem spc_snoc : ∀ (ws : List (List Int)) (w : List Int), spc (ws ++ [w]) = spc ws ++ ((if 0 < ws.length then [32] else []) ++ w)
  | [], w => by simp [spc, spT]
  | v :: ws, w => by simp [spc, spT]
def textL (c : List Run) : List Int := if rightB c then (if c = [] then [45] else spc (c.map runW)) else []
theorem runW_len {r : Run} (h : runP r) : (runW r).length ≤ 41 := by
  have h1 := decL_len 12 r.1.toNat (by omega)
  have h2 := decL_len 12 r.2.1.toNat (by omega)
  have h3 := decL_len 12 r.2.2.toNat (by omega)
  unfold runW
  split <;> simp only [List.length_append, List.length_cons, List.length_nil] <;> omega
theorem spc_len : ∀ (ws : List (List Int)), (∀ w, w ∈ ws → w.length ≤ 41) → (spc ws).length ≤ 42 * ws.length := fun ws => by
  have hT : ∀ (ws : List (List Int)), (∀ w, w ∈ ws → w.length ≤ 41) → (spT ws).length ≤ 42 * ws.length := fun ws => by
    induction ws with
    | nil => intro _; simp [spT]
    | cons w ws ih =>
      intro h
      have h1 := ih (fun x hx => h x (List.mem_cons_of_mem _ hx))
      have h2 := h w (List.mem_cons_self ..)
      have e : spT (w :: ws) = (32 :: w) ++ spT ws := rfl
      rw [e]; simp only [List.length_append, List.length_cons]; omega
  intro h
  cases ws with
  | nil => simp [spc]
  | cons w ws =>
    have h1 := hT ws (fun x hx => h x (List.mem_cons_of_mem _ hx))
    have h2 := h w (List.mem_cons_self ..)
    simp only [spc, List.length_append, List.length_cons]; omega
theorem join_spc (ws : List (List Int)) : joinS (ws.map strOfNums) ⟨#[32]⟩ = strOfNums (spc ws) := by
  unfold joinS
  have e : ∀ l : List Int, (strOfNums l).data.toList = l.map fun n => UInt8.ofNat n.toNat := strOfNums_data
  cases ws with
  | nil => rfl
  | cons w ws =>
    rw [List.map_cons, List.map_cons, Lib.join_cons]
    have h : strOfNums (spc (w :: ws)) = ⟨(((w ++ spT ws).map fun n => UInt8.ofNat n.toNat)).toArray⟩ := by
      show strOfNums (w ++ spT ws) = _
      rw [← e]
    rw [h, List.map_append]
    congr 2
    rw [e]
    congr 1
    unfold Lib.joinTail spT
    rw [List.map_flatten, List.map_map, List.map_map, List.map_map]
    exact congrArg List.flatten (List.map_congr_left fun l _ => by show [32] ++ (strOfNums l).data.toList = _; rw [e]; rfl)
@[reducible] def dtextC : Ctr := {
  X := List Run
  Y := Unit
  args := fun c => [.ro true runT c]
  rw := fun _ => []
  side := fun c => c.length ≤ 1000000
  val := fun _ => ()
  ens := fun _ _ => True
  res := fun c _ => .v (.string (strOfNums (textL c)))
  out := fun _ _ => [] }
@[reducible] def wordsS (c : List Run) : List ByteArray := (c.map runW).map strOfNums
@[reducible] def dtextL (c : List Run) : LA := {
  X := Nat
  pre := fun i => i ≤ c.length
  mu := fun i => c.length - i
  T := fun i => [(3, .sl 2), (13, .ro true runT c), (14, .v (.int .i64 c.length)), (15, .v (.int .i64 (i : Nat)))]
  M := fun i => [(2, .row 9 .str (wordsS (c.take i)))] }
theorem knownT1 : Known Tryz.prog (gOf [(24, drightC), (60, itoaC), (61, joinC)]) :=
  known_cons ⟨dright_ok, Tryz.call24⟩ (known_cons ⟨itoa_ok, Tryz.call60⟩ (known_cons ⟨sjoin_ok, Tryz.call61⟩ (known_nil _)))
theorem dtext_ok : dtextC.ok Tryz.prog 22 := by
  refine ok_of_vc (An := fun x => anOf [(0, .loop (dtextL x))]) knownT1 mo Tryz.func22 (by kernel_rfl) (by kernel_rfl) (fun _ _ => trivial) (fun (c : List Run) hs => ?_)
  have hs : c.length ≤ 1000000 := hs
  have hs2 : c.length ≤ 274877906944 := by omega
  cases hr : rightB c with
  | false =>
    have ht : strOfNums (textL c) = ⟨#[]⟩ := by unfold textL; rw [hr]; rfl
    have lm := And.intro hr ht
    ((repeat' ((conv => whnf) <;> first | exact True.intro | (guard_target =~ Fork _ _ _; first | refine F1 ?_ | refine F2 ?_ | refine F3 (fun h => ?_) fun h => ?_) | (guard_target =~ Ar _ _ _; first | refine A1 ?_ | refine A2 ?_ | refine A3 ?_) | (guard_target =~ AskL _ _; first | refine L1 ?_) | (guard_target =~ Go.Eng.Ask _ _; first | refine K1 ?_) | (guard_target =~ All' _ _; first | (refine Y2 fun y he he' hy => ?_; (try dsimp only at he he' hy)) | (refine Y1 fun y he hy => ?_; (try with_reducible conv at he => (rhs; whnf)); (try dsimp only at he hy)) | (refine All'.mk ?_; intro y hy)) | refine F4 (fun h => ?_) fun h => ?_ | refine R1 ?_ | refine Q1 ?_ | fail)); all_goals (conv => whnf))
    refine CallP.mk (C := drightC) c ?_
    exact G1
  | true =>
    by_cases h0 : c = []
    · subst h0
      have ht : strOfNums (textL []) = ⟨#[45]⟩ := rfl
      have hln : ([] : List Run).length = 0 := rfl
      have lm := And.intro hr ht
      ((repeat' ((conv => whnf) <;> first | exact True.intro | (guard_target =~ Fork _ _ _; first | refine F1 ?_ | refine F2 ?_ | refine F3 (fun h => ?_) fun h => ?_) | (guard_target =~ Ar _ _ _; first | refine A1 ?_ | refine A2 ?_ | refine A3 ?_) | (guard_target =~ AskL _ _; first | refine L1 ?_) | (guard_target =~ Go.Eng.Ask _ _; first | refine K1 ?_) | (guard_target =~ All' _ _; first | (refine Y2 fun y he he' hy => ?_; (try dsimp only at he he' hy)) | (refine Y1 fun y he hy => ?_; (try with_reducible conv at he => (rhs; whnf)); (try dsimp only at he hy)) | (refine All'.mk ?_; intro y hy)) | refine F4 (fun h => ?_) fun h => ?_ | refine R1 ?_ | refine Q1 ?_ | fail)); all_goals (conv => whnf))
      refine CallP.mk (C := drightC) [] ?_
      exact G1
    · have ht : textL c = spc (c.map runW) := by unfold textL; rw [hr, if_neg h0]; rfl
      have hp : 0 < c.length := List.length_pos_iff.2 h0
      have lm := And.intro hr ht
      ((repeat' ((conv => whnf) <;> first | exact True.intro | (guard_target =~ Fork _ _ _; first | refine F1 ?_ | refine F2 ?_ | refine F3 (fun h => ?_) fun h => ?_) | (guard_target =~ Ar _ _ _; first | refine A1 ?_ | refine A2 ?_ | refine A3 ?_) | (guard_target =~ AskL _ _; first | refine L1 ?_) | (guard_target =~ Go.Eng.Ask _ _; first | refine K1 ?_) | (guard_target =~ All' _ _; first | (refine Y2 fun y he he' hy => ?_; (try dsimp only at he he' hy)) | (refine Y1 fun y he hy => ?_; (try with_reducible conv at he => (rhs; whnf)); (try dsimp only at he hy)) | (refine All'.mk ?_; intro y hy)) | refine F4 (fun h => ?_) fun h => ?_ | refine R1 ?_ | refine Q1 ?_ | fail)); all_goals (conv => whnf))
      refine CallP.mk (C := drightC) c ?_
      ((repeat' ((conv => whnf) <;> first | exact True.intro | (guard_target =~ Fork _ _ _; first | refine F1 ?_ | refine F2 ?_ | refine F3 (fun h => ?_) fun h => ?_) | (guard_target =~ Ar _ _ _; first | refine A1 ?_ | refine A2 ?_ | refine A3 ?_) | (guard_target =~ AskL _ _; first | refine L1 ?_) | (guard_target =~ Go.Eng.Ask _ _; first | refine K1 ?_) | (guard_target =~ All' _ _; first | (refine Y2 fun y he he' hy => ?_; (try dsimp only at he he' hy)) | (refine Y1 fun y he hy => ?_; (try with_reducible conv at he => (rhs; whnf)); (try dsimp only at he hy)) | (refine All'.mk ?_; intro y hy)) | refine F4 (fun h => ?_) fun h => ?_ | refine R1 ?_ | refine Q1 ?_ | fail)); all_goals (conv => whnf))
      refine Some'.mk (0 : Nat) ?_
      ((repeat' ((conv => whnf) <;> first | exact True.intro | (guard_target =~ Fork _ _ _; first | refine F1 ?_ | refine F2 ?_ | refine F3 (fun h => ?_) fun h => ?_) | (guard_target =~ Ar _ _ _; first | refine A1 ?_ | refine A2 ?_ | refine A3 ?_) | (guard_target =~ AskL _ _; first | refine L1 ?_) | (guard_target =~ Go.Eng.Ask _ _; first | refine K1 ?_) | (guard_target =~ All' _ _; first | (refine Y2 fun y he he' hy => ?_; (try dsimp only at he he' hy)) | (refine Y1 fun y he hy => ?_; (try with_reducible conv at he => (rhs; whnf)); (try dsimp only at he hy)) | (refine All'.mk ?_; intro y hy)) | refine F4 (fun h => ?_) fun h => ?_ | refine R1 ?_ | refine Q1 ?_ | fail)); all_goals (conv => whnf))
      refine AllI.mk ?_
      rintro (i : Nat) hi
      have hi : i ≤ c.length := hi
      by_cases hie : i = c.length
      · subst hie
        have hwl : wordsS (c.take c.length) = (c.map runW).map strOfNums := by show ((c.take c.length).map runW).map strOfNums = _; rw [List.take_length]
        have hj : joinS (wordsS (c.take c.length)) ⟨#[32]⟩ = strOfNums (spc (c.map runW)) := by rw [hwl]; exact join_spc _
        have hjk : (wordsS (c.take c.length)).length ≤ 140737488355328 ∧ (joinS (wordsS (c.take c.length)) ⟨#[32]⟩).size ≤ 140737488355328 := by
          rw [hj, str_size, hwl]
          have := spc_len (c.map runW) (fun w hw => by
            obtain ⟨r, hr1, rfl⟩ := List.mem_map.1 hw
            obtain ⟨k, hk⟩ := List.getElem?_of_mem hr1
            exact runW_len (right_runs hr hk))
          rw [List.length_map] at this
          rw [List.length_map, List.length_map]; omega
        clear hwl
        have lm := And.intro hr (And.intro ht hj)
        ((repeat' ((conv => whnf) <;> first | exact True.intro | (guard_target =~ Fork _ _ _; first | refine F1 ?_ | refine F2 ?_ | refine F3 (fun h => ?_) fun h => ?_) | (guard_target =~ Ar _ _ _; first | refine A1 ?_ | refine A2 ?_ | refine A3 ?_) | (guard_target =~ AskL _ _; first | refine L1 ?_) | (guard_target =~ Go.Eng.Ask _ _; first | refine K1 ?_) | (guard_target =~ All' _ _; first | (refine Y2 fun y he he' hy => ?_; (try dsimp only at he he' hy)) | (refine Y1 fun y he hy => ?_; (try with_reducible conv at he => (rhs; whnf)); (try dsimp only at he hy))) | refine F4 (fun h => ?_) fun h => ?_ | refine R1 ?_ | refine Q1 ?_ | fail)); all_goals (conv => whnf))
        refine CallP.mk (C := joinC) ⟨wordsS (c.take c.length), ⟨#[32]⟩⟩ ?_
        exact G1
      · obtain ⟨⟨m, f, t⟩, hce⟩ : ∃ e, c[i]? = some e := ⟨_, List.getElem?_eq_getElem (by omega)⟩
        have hrp : runP (m, f, t) := right_runs hr hce
        obtain ⟨q1, q2, q3, q4, q5⟩ : 0 ≤ m ∧ m ≤ 7 ∧ 1 ≤ f ∧ f ≤ t ∧ t ≤ 1099511627776 := hrp
        have hmd : itoaS m = strOfNums (decL m.toNat) := itoa_dec q1
        have hfd : itoaS f = strOfNums (decL f.toNat) := itoa_dec (by omega)
        have htd : itoaS t = strOfNums (decL t.toNat) := itoa_dec (by omega)
        have hml := decL_len 12 m.toNat (by omega)
        have hfl := decL_len 12 f.toNat (by omega)
        have htl := decL_len 12 t.toNat (by omega)
        ((repeat' ((conv => whnf) <;> first | exact True.intro | (guard_target =~ Fork _ _ _; first | refine F1 ?_ | refine F2 ?_ | refine F3 (fun h => ?_) fun h => ?_) | (guard_target =~ Ar _ _ _; first | refine A1 ?_ | refine A2 ?_ | refine A3 ?_) | (guard_target =~ AskL _ _; first | refine L1 ?_) | (guard_target =~ Go.Eng.Ask _ _; first | refine K1 ?_) | (guard_target =~ All' _ _; first | (refine Y2 fun y he he' hy => ?_; (try dsimp only at he he' hy)) | (refine Y1 fun y he hy => ?_; (try with_reducible conv at he => (rhs; whnf)); (try dsimp only at he hy))) | refine F4 (fun h => ?_) fun h => ?_ | refine R1 ?_ | refine Q1 ?_ | fail)); all_goals (conv => whnf))
        refine All'.mk ?_; rintro (e' : Run) he'
        obtain rfl : (m, f, t) = e' := Option.some.inj (hce.symm.trans he')
        clear he'
        ((repeat' ((conv => whnf) <;> first | exact True.intro | (guard_target =~ Fork _ _ _; first | refine F1 ?_ | refine F2 ?_ | refine F3 (fun h => ?_) fun h => ?_) | (guard_target =~ Ar _ _ _; first | refine A1 ?_ | refine A2 ?_ | refine A3 ?_) | (guard_target =~ AskL _ _; first | refine L1 ?_) | (guard_target =~ Go.Eng.Ask _ _; first | refine K1 ?_) | (guard_target =~ All' _ _; first | (refine Y2 fun y he he' hy => ?_; (try dsimp only at he he' hy)) | (refine Y1 fun y he hy => ?_; (try with_reducible conv at he => (rhs; whnf)); (try dsimp only at he hy))) | refine F4 (fun h => ?_) fun h => ?_ | refine R1 ?_ | refine Q1 ?_ | fail)); all_goals (conv => whnf))
        have h58 : (⟨#[58]⟩ : ByteArray) = strOfNums [58] := rfl
        have h45 : (⟨#[45]⟩ : ByteArray) = strOfNums [45] := rfl
        have hz1 : (itoaS m).size + (⟨#[58]⟩ : ByteArray).size ≤ 9223372036854775807 := by rw [hmd, h58, str_size, str_size]; simp only [List.length_cons, List.length_nil]; omega
        have hz2 : (itoaS m ++ (⟨#[58]⟩ : ByteArray)).size + (itoaS f).size ≤ 9223372036854775807 := by rw [hmd, hfd, h58, str_cat, str_size, str_size]; simp only [List.length_append, List.length_cons, List.length_nil]; omega
        have hz3 : (⟨#[45]⟩ : ByteArray).size + (itoaS t).size ≤ 9223372036854775807 := by rw [htd, h45, str_size, str_size]; simp only [List.length_cons, List.length_nil]; omega
        have hz4 : (itoaS m ++ (⟨#[58]⟩ : ByteArray) ++ itoaS f).size + ((⟨#[45]⟩ : ByteArray) ++ itoaS t).size ≤ 9223372036854775807 := by rw [hmd, hfd, htd, h58, h45, str_cat, str_cat, str_cat, str_size, str_size]; simp only [List.length_append, List.length_cons, List.length_nil]; omega
        refine CallP.mk (C := itoaC) m ?_
        ((repeat' ((conv => whnf) <;> first | exact True.intro | (guard_target =~ Fork _ _ _; first | refine F1 ?_ | refine F2 ?_ | refine F3 (fun h => ?_) fun h => ?_) | (guard_target =~ Ar _ _ _; first | refine A1 ?_ | refine A2 ?_ | refine A3 ?_) | (guard_target =~ AskL _ _; first | refine L1 ?_) | (guard_target =~ Go.Eng.Ask _ _; first | refine K1 ?_) | (guard_target =~ All' _ _; first | (refine Y2 fun y he he' hy => ?_; (try dsimp only at he he' hy)) | (refine Y1 fun y he hy => ?_; (try with_reducible conv at he => (rhs; whnf)); (try dsimp only at he hy)) | (refine All'.mk ?_; intro y hy)) | refine F4 (fun h => ?_) fun h => ?_ | refine R1 ?_ | refine Q1 ?_ | fail)); all_goals (conv => whnf))
        have hwn : (wordsS (c.take i)).length = i := by rw [List.length_map, List.length_map, List.length_take]; omega
        have hap : ∀ x : ByteArray, (wordsS (c.take i)).length + [x].length ≤ 274877906944 := fun x => by rw [hwn, List.length_singleton]; omega
        have hstep : wordsS (c.take (i + 1)) = wordsS (c.take i) ++ [strOfNums (runW (m, f, t))] := by
          show ((c.take (i + 1)).map runW).map strOfNums = _
          rw [take_get hce, List.map_append, List.map_append]; rfl
        have hpr : (dtextL c).pre (i + 1) := by show i + 1 ≤ c.length; omega
        have hmu : (dtextL c).mu (i + 1) < (dtextL c).mu i := by show c.length - (i + 1) < c.length - i; omega
        refine CallP.mk (C := itoaC) f ?_
        ((repeat' ((conv => whnf) <;> first | exact True.intro | (guard_target =~ Fork _ _ _; first | refine F1 ?_ | refine F2 ?_ | refine F3 (fun h => ?_) fun h => ?_) | (guard_target =~ Ar _ _ _; first | refine A1 ?_ | refine A2 ?_ | refine A3 ?_) | (guard_target =~ AskL _ _; first | refine L1 ?_) | (guard_target =~ Go.Eng.Ask _ _; first | refine K1 ?_) | (guard_target =~ All' _ _; first | (refine Y2 fun y he he' hy => ?_; (try dsimp only at he he' hy)) | (refine Y1 fun y he hy => ?_; (try with_reducible conv at he => (rhs; whnf)); (try dsimp only at he hy)) | (refine All'.mk ?_; intro y hy)) | refine F4 (fun h => ?_) fun h => ?_ | refine R1 ?_ | refine Q1 ?_ | fail)); all_goals (conv => whnf))
        · refine CallP.mk (C := itoaC) t ?_
          ((repeat' ((conv => whnf) <;> first | exact True.intro | (guard_target =~ Fork _ _ _; first | refine F1 ?_ | refine F2 ?_ | refine F3 (fun h => ?_) fun h => ?_) | (guard_target =~ Ar _ _ _; first | refine A1 ?_ | refine A2 ?_ | refine A3 ?_) | (guard_target =~ AskL _ _; first | refine L1 ?_) | (guard_target =~ Go.Eng.Ask _ _; first | refine K1 ?_) | (guard_target =~ All' _ _; first | (refine Y2 fun y he he' hy => ?_; (try dsimp only at he he' hy)) | (refine Y1 fun y he hy => ?_; (try with_reducible conv at he => (rhs; whnf)); (try dsimp only at he hy)) | (refine All'.mk ?_; intro y hy)) | refine F4 (fun h => ?_) fun h => ?_ | refine R1 ?_ | refine Q1 ?_ | fail)); all_goals (conv => whnf))
          refine Some'.mk (i + 1 : Nat) ?_
          have hrw : runW (m, f, t) = decL m.toNat ++ [58] ++ decL f.toNat ++ ([45] ++ decL t.toNat) := by
            have hft : f < t := by assumption
            show decL m.toNat ++ [58] ++ decL f.toNat ++ (if f < t then [45] ++ decL t.toNat else []) = _
            rw [if_pos hft]
          ((repeat' ((conv => whnf) <;> first | exact True.intro | (guard_target =~ Fork _ _ _; first | refine F1 ?_ | refine F2 ?_ | refine F3 (fun h => ?_) fun h => ?_) | (guard_target =~ Ar _ _ _; first | refine A1 ?_ | refine A2 ?_ | refine A3 ?_) | (guard_target =~ Go.Eng.Ask _ _; first | refine K1 ?_) | (guard_target =~ All' _ _; first | (refine Y2 fun y he he' hy => ?_; (try dsimp only at he he' hy)) | (refine Y1 fun y he hy => ?_; (try with_reducible conv at he => (rhs; whnf)); (try dsimp only at he hy)) | (refine All'.mk ?_; intro y hy)) | refine F4 (fun h => ?_) fun h => ?_ | refine R1 ?_ | refine Q1 ?_ | fail)); all_goals (conv => whnf))
          refine AskL.mk ?_ (Ask.mk hpr (Ask.mk hmu trivial))
          (dsimp only [conj]; repeat' apply And.intro) <;> first | rfl | (show SV.ro true Ty.str _ = SV.ro true Ty.str (wordsS (c.take (i + 1))); rw [hstep, hrw, hmd, hfd, htd, h58, h45, str_cat, str_cat, str_cat, str_cat])
        · refine Some'.mk (i + 1 : Nat) ?_
          have hrw : runW (m, f, t) = decL m.toNat ++ [58] ++ decL f.toNat := by
            have hft : ¬ f < t := by assumption
            show decL m.toNat ++ [58] ++ decL f.toNat ++ (if f < t then [45] ++ decL t.toNat else []) = _
            rw [if_neg hft, List.append_nil]
          ((repeat' ((conv => whnf) <;> first | exact True.intro | (guard_target =~ Fork _ _ _; first | refine F1 ?_ | refine F2 ?_ | refine F3 (fun h => ?_) fun h => ?_) | (guard_target =~ Ar _ _ _; first | refine A1 ?_ | refine A2 ?_ | refine A3 ?_) | (guard_target =~ Go.Eng.Ask _ _; first | refine K1 ?_) | (guard_target =~ All' _ _; first | (refine Y2 fun y he he' hy => ?_; (try dsimp only at he he' hy)) | (refine Y1 fun y he hy => ?_; (try with_reducible conv at he => (rhs; whnf)); (try dsimp only at he hy)) | (refine All'.mk ?_; intro y hy)) | refine F4 (fun h => ?_) fun h => ?_ | refine R1 ?_ | refine Q1 ?_ | fail)); all_goals (conv => whnf))
          refine AskL.mk ?_ (Ask.mk hpr (Ask.mk hmu trivial))
          (dsimp only [conj]; repeat' apply And.intro) <;> first | rfl | (show SV.ro true Ty.str _ = SV.ro true Ty.str (wordsS (c.take (i + 1))); rw [hstep, hrw, hmd, hfd, h58, str_cat, str_cat])
end Go.Proofs.YtoaaieiiamdopaaGreatDoor

set_option linter.unusedVariables false
set_option linter.unusedSimpArgs false
set_option maxRecDepth 100000
set_option maxHeartbeats 4000000
namespace Go.Proofs.YtoaaieiiamdopaaGreatDoor
open Go.Eng
def dotW (d : Int × Int) : List Int := decL d.1.toNat ++ [58] ++ decL d.2.toNat
@[reducible] def rDotC : Ctr := {
  X := Int × Int
  Y := Unit
  args := fun d => [.agg [.v (.int .i64 d.1), .v (.int .i64 d.2)]]
  rw := fun _ => []
  side := fun d => 0 ≤ d.1 ∧ d.1 ≤ 1099511627776 ∧ 0 ≤ d.2 ∧ d.2 ≤ 1099511627776
  val := fun _ => ()
  ens := fun _ _ => True
  res := fun d _ => .v (.string (strOfNums (dotW d)))
  out := fun _ _ => [] }
theorem knownT2 : Known Tryz.prog (gOf [(63, digitsC)]) := known_cons ⟨digits_ok, Tryz.call63⟩ (known_nil _)
theorem rDot_ok : rDotC.ok Tryz.prog 62 := by
  refine ok_of_vc (An := fun _ => anOf []) knownT2 mo Tryz.func62 (by kernel_rfl) (by kernel_rfl) (fun _ _ => trivial) (fun (d : Int × Int) hs => ?_)
  obtain ⟨m, f⟩ := d
  obtain ⟨q1, q2, q3, q4⟩ : 0 ≤ m ∧ m ≤ 1099511627776 ∧ 0 ≤ f ∧ f ≤ 1099511627776 := hs
  have hml := decL_len 12 m.toNat (by omega)
  have hfl := decL_len 12 f.toNat (by omega)
  have h58 : (⟨#[58]⟩ : ByteArray) = strOfNums [58] := rfl
  have hz1 : (strOfNums (decL m.toNat)).size + (⟨#[58]⟩ : ByteArray).size ≤ 9223372036854775807 := by rw [h58, str_size, str_size]; simp only [List.length_cons, List.length_nil]; omega
  have hz2 : (strOfNums (decL m.toNat) ++ (⟨#[58]⟩ : ByteArray)).size + (strOfNums (decL f.toNat)).size ≤ 9223372036854775807 := by rw [h58, str_cat, str_size, str_size]; simp only [List.length_append, List.length_cons, List.length_nil]; omega
  have hd : strOfNums (dotW (m, f)) = strOfNums (decL m.toNat) ++ (⟨#[58]⟩ : ByteArray) ++ strOfNums (decL f.toNat) := by rw [h58, str_cat, str_cat]; rfl
  have lm := hd
  ((repeat' ((conv => whnf) <;> first | exact True.intro | (guard_target =~ Fork _ _ _; first | refine F1 ?_ | refine F2 ?_ | refine F3 (fun h => ?_) fun h => ?_) | (guard_target =~ Ar _ _ _; first | refine A1 ?_ | refine A2 ?_ | refine A3 ?_) | (guard_target =~ AskL _ _; first | refine L1 ?_) | (guard_target =~ Go.Eng.Ask _ _; first | refine K1 ?_) | (guard_target =~ All' _ _; first | (refine Y2 fun y he he' hy => ?_; (try dsimp only at he he' hy)) | (refine Y1 fun y he hy => ?_; (try with_reducible conv at he => (rhs; whnf)); (try dsimp only at he hy)) | (refine All'.mk ?_; intro y hy)) | refine F4 (fun h => ?_) fun h => ?_ | refine R1 ?_ | refine Q1 ?_ | fail)); all_goals (conv => whnf))
  refine CallP.mk (C := digitsC) m ?_
  ((repeat' ((conv => whnf) <;> first | exact True.intro | (guard_target =~ Fork _ _ _; first | refine F1 ?_ | refine F2 ?_ | refine F3 (fun h => ?_) fun h => ?_) | (guard_target =~ Ar _ _ _; first | refine A1 ?_ | refine A2 ?_ | refine A3 ?_) | (guard_target =~ AskL _ _; first | refine L1 ?_) | (guard_target =~ Go.Eng.Ask _ _; first | refine K1 ?_) | (guard_target =~ All' _ _; first | (refine Y2 fun y he he' hy => ?_; (try dsimp only at he he' hy)) | (refine Y1 fun y he hy => ?_; (try with_reducible conv at he => (rhs; whnf)); (try dsimp only at he hy)) | (refine All'.mk ?_; intro y hy)) | refine F4 (fun h => ?_) fun h => ?_ | refine R1 ?_ | refine Q1 ?_ | fail)); all_goals (conv => whnf))
  refine CallP.mk (C := digitsC) f ?_
  exact G1

@[reducible] def rtextL (c : List Run) : LA := {
  X := Nat
  pre := fun i => i ≤ c.length
  mu := fun i => c.length - i
  T := fun i => [(3, .v (.string (strOfNums (spc ((c.take i).map runW))))), (12, .ro true runT c), (13, .v (.int .i64 c.length)), (14, .v (.int .i64 (i : Nat)))]
  M := fun i => [] }
theorem knownT3 : Known Tryz.prog (gOf [(11, drightC), (63, digitsC), (62, rDotC)]) :=
  known_cons ⟨rdright_ok, Tryz.call11⟩ (known_cons ⟨digits_ok, Tryz.call63⟩ (known_cons ⟨rDot_ok, Tryz.call62⟩ (known_nil _)))
theorem rdtext_ok : dtextC.ok Tryz.prog 23 := by
  refine ok_of_vc (An := fun x => anOf [(0, .loop (rtextL x))]) knownT3 mo Tryz.func23 (by kernel_rfl) (by kernel_rfl) (fun _ _ => trivial) (fun (c : List Run) hs => ?_)
  have hs : c.length ≤ 1000000 := hs
  have hs2 : c.length ≤ 274877906944 := by omega
  cases hr : rightB c with
  | false =>
    have ht : strOfNums (textL c) = ⟨#[]⟩ := by unfold textL; rw [hr]; rfl
    have lm := And.intro hr ht
    ((repeat' ((conv => whnf) <;> first | exact True.intro | (guard_target =~ Fork _ _ _; first | refine F1 ?_ | refine F2 ?_ | refine F3 (fun h => ?_) fun h => ?_) | (guard_target =~ Ar _ _ _; first | refine A1 ?_ | refine A2 ?_ | refine A3 ?_) | (guard_target =~ AskL _ _; first | refine L1 ?_) | (guard_target =~ Go.Eng.Ask _ _; first | refine K1 ?_) | (guard_target =~ All' _ _; first | (refine Y2 fun y he he' hy => ?_; (try dsimp only at he he' hy)) | (refine Y1 fun y he hy => ?_; (try with_reducible conv at he => (rhs; whnf)); (try dsimp only at he hy)) | (refine All'.mk ?_; intro y hy)) | refine F4 (fun h => ?_) fun h => ?_ | refine R1 ?_ | refine Q1 ?_ | fail)); all_goals (conv => whnf))
    refine CallP.mk (C := drightC) c ?_
    exact G1
  | true =>
    by_cases h0 : c = []
    · subst h0
      have ht : strOfNums (textL []) = ⟨#[45]⟩ := rfl
      have hln : ([] : List Run).length = 0 := rfl
      have lm := And.intro hr ht
      ((repeat' ((conv => whnf) <;> first | exact True.intro | (guard_target =~ Fork _ _ _; first | refine F1 ?_ | refine F2 ?_ | refine F3 (fun h => ?_) fun h => ?_) | (guard_target =~ Ar _ _ _; first | refine A1 ?_ | refine A2 ?_ | refine A3 ?_) | (guard_target =~ AskL _ _; first | refine L1 ?_) | (guard_target =~ Go.Eng.Ask _ _; first | refine K1 ?_) | (guard_target =~ All' _ _; first | (refine Y2 fun y he he' hy => ?_; (try dsimp only at he he' hy)) | (refine Y1 fun y he hy => ?_; (try with_reducible conv at he => (rhs; whnf)); (try dsimp only at he hy)) | (refine All'.mk ?_; intro y hy)) | refine F4 (fun h => ?_) fun h => ?_ | refine R1 ?_ | refine Q1 ?_ | fail)); all_goals (conv => whnf))
      refine CallP.mk (C := drightC) [] ?_
      exact G1
    · have ht : textL c = spc (c.map runW) := by unfold textL; rw [hr, if_neg h0]; rfl
      have hp : 0 < c.length := List.length_pos_iff.2 h0
      have hst : (⟨#[]⟩ : ByteArray) = strOfNums (spc ((c.take 0).map runW)) := rfl
      have lm := And.intro hr ht
      ((repeat' ((conv => whnf) <;> first | exact True.intro | (guard_target =~ Fork _ _ _; first | refine F1 ?_ | refine F2 ?_ | refine F3 (fun h => ?_) fun h => ?_) | (guard_target =~ Ar _ _ _; first | refine A1 ?_ | refine A2 ?_ | refine A3 ?_) | (guard_target =~ AskL _ _; first | refine L1 ?_) | (guard_target =~ Go.Eng.Ask _ _; first | refine K1 ?_) | (guard_target =~ All' _ _; first | (refine Y2 fun y he he' hy => ?_; (try dsimp only at he he' hy)) | (refine Y1 fun y he hy => ?_; (try with_reducible conv at he => (rhs; whnf)); (try dsimp only at he hy)) | (refine All'.mk ?_; intro y hy)) | refine F4 (fun h => ?_) fun h => ?_ | refine R1 ?_ | refine Q1 ?_ | fail)); all_goals (conv => whnf))
      refine CallP.mk (C := drightC) c ?_
      ((repeat' ((conv => whnf) <;> first | exact True.intro | (guard_target =~ Fork _ _ _; first | refine F1 ?_ | refine F2 ?_ | refine F3 (fun h => ?_) fun h => ?_) | (guard_target =~ Ar _ _ _; first | refine A1 ?_ | refine A2 ?_ | refine A3 ?_) | (guard_target =~ AskL _ _; first | refine L1 ?_) | (guard_target =~ Go.Eng.Ask _ _; first | refine K1 ?_) | (guard_target =~ All' _ _; first | (refine Y2 fun y he he' hy => ?_; (try dsimp only at he he' hy)) | (refine Y1 fun y he hy => ?_; (try with_reducible conv at he => (rhs; whnf)); (try dsimp only at he hy)) | (refine All'.mk ?_; intro y hy)) | refine F4 (fun h => ?_) fun h => ?_ | refine R1 ?_ | refine Q1 ?_ | fail)); all_goals (conv => whnf))
      refine Some'.mk (0 : Nat) ?_
      ((repeat' ((conv => whnf) <;> first | exact True.intro | (guard_target =~ Fork _ _ _; first | refine F1 ?_ | refine F2 ?_ | refine F3 (fun h => ?_) fun h => ?_) | (guard_target =~ Ar _ _ _; first | refine A1 ?_ | refine A2 ?_ | refine A3 ?_) | (guard_target =~ AskL _ _; first | refine L1 ?_) | (guard_target =~ Go.Eng.Ask _ _; first | refine K1 ?_) | (guard_target =~ All' _ _; first | (refine Y2 fun y he he' hy => ?_; (try dsimp only at he he' hy)) | (refine Y1 fun y he hy => ?_; (try with_reducible conv at he => (rhs; whnf)); (try dsimp only at he hy)) | (refine All'.mk ?_; intro y hy)) | refine F4 (fun h => ?_) fun h => ?_ | refine R1 ?_ | refine Q1 ?_ | fail)); all_goals (conv => whnf))
      refine AllI.mk ?_
      rintro (i : Nat) hi
      have hi : i ≤ c.length := hi
      by_cases hie : i = c.length
      · subst hie
        ((repeat' ((conv => whnf) <;> first | exact True.intro | (guard_target =~ Fork _ _ _; first | refine F1 ?_ | refine F2 ?_ | refine F3 (fun h => ?_) fun h => ?_) | (guard_target =~ Ar _ _ _; first | refine A1 ?_ | refine A2 ?_ | refine A3 ?_) | (guard_target =~ Go.Eng.Ask _ _; first | refine K1 ?_) | (guard_target =~ All' _ _; first | (refine Y2 fun y he he' hy => ?_; (try dsimp only at he he' hy)) | (refine Y1 fun y he hy => ?_; (try with_reducible conv at he => (rhs; whnf)); (try dsimp only at he hy)) | (refine All'.mk ?_; intro y hy)) | refine F4 (fun h => ?_) fun h => ?_ | refine R1 ?_ | refine Q1 ?_ | fail)); all_goals (conv => whnf))
        refine AskL.mk ?_ trivial
        dsimp only [conj]
        rw [ht, List.take_length]
      · obtain ⟨⟨m, f, t⟩, hce⟩ : ∃ e, c[i]? = some e := ⟨_, List.getElem?_eq_getElem (by omega)⟩
        have hrp : runP (m, f, t) := right_runs hr hce
        obtain ⟨q1, q2, q3, q4, q5⟩ : 0 ≤ m ∧ m ≤ 7 ∧ 1 ≤ f ∧ f ≤ t ∧ t ≤ 1099511627776 := hrp
        have hml := decL_len 12 m.toNat (by omega)
        have hfl := decL_len 12 f.toNat (by omega)
        have htl := decL_len 12 t.toNat (by omega)
        have hsl := spc_len ((c.take i).map runW) (fun w hw => by
            obtain ⟨r, hr1, rfl⟩ := List.mem_map.1 hw
            obtain ⟨k, hk⟩ := List.getElem?_of_mem (List.mem_of_mem_take hr1)
            exact runW_len (right_runs hr hk))
        rw [List.length_map, List.length_take] at hsl
        have h32 : (⟨#[32]⟩ : ByteArray) = strOfNums [32] := rfl
        have h45 : (⟨#[45]⟩ : ByteArray) = strOfNums [45] := rfl
        have hstep : spc ((c.take (i + 1)).map runW) = spc ((c.take i).map runW) ++ ((if 0 < i then [32] else []) ++ runW (m, f, t)) := by
          rw [take_get hce, List.map_append, List.map_singleton, spc_snoc, List.length_map, List.length_take, Nat.min_eq_left hi]
        have hpr : (rtextL c).pre (i + 1) := by show i + 1 ≤ c.length; omega
        have hmu : (rtextL c).mu (i + 1) < (rtextL c).mu i := by show c.length - (i + 1) < c.length - i; omega
        have hdz : (strOfNums (dotW (m, f))).size ≤ 27 := by rw [str_size]; show (decL m.toNat ++ [58] ++ decL f.toNat).length ≤ 27; simp only [List.length_append, List.length_cons, List.length_nil]; omega
        have htz : (strOfNums (decL t.toNat)).size ≤ 13 := by rw [str_size]; omega
        have hpz : (strOfNums (spc ((c.take i).map runW))).size ≤ 42000000 := by rw [str_size]; omega
        have h3z : (⟨#[32]⟩ : ByteArray).size = 1 := rfl
        have h4z : (⟨#[45]⟩ : ByteArray).size = 1 := rfl
        have hds : 0 ≤ m ∧ m ≤ 1099511627776 ∧ 0 ≤ f ∧ f ≤ 1099511627776 := by omega
        clear hsl
        by_cases hi0 : 0 < i
        · rw [if_pos hi0] at hstep
          have z0 : (strOfNums (spc ((c.take i).map runW))).size + (⟨#[32]⟩ : ByteArray).size ≤ 9223372036854775807 := by omega
          have z1 : (strOfNums (spc ((c.take i).map runW)) ++ (⟨#[32]⟩ : ByteArray)).size + (strOfNums (dotW (m, f))).size ≤ 9223372036854775807 := by rw [ByteArray.size_append]; omega
          have z2 : (⟨#[45]⟩ : ByteArray).size + (strOfNums (decL t.toNat)).size ≤ 9223372036854775807 := by omega
          have z3 : ((strOfNums (spc ((c.take i).map runW)) ++ (⟨#[32]⟩ : ByteArray)) ++ strOfNums (dotW (m, f))).size + ((⟨#[45]⟩ : ByteArray) ++ strOfNums (decL t.toNat)).size ≤ 9223372036854775807 := by rw [ByteArray.size_append, ByteArray.size_append, ByteArray.size_append]; omega
          ((repeat' ((conv => whnf) <;> first | exact True.intro | (guard_target =~ Fork _ _ _; first | refine F1 ?_ | refine F2 ?_ | refine F3 (fun h => ?_) fun h => ?_) | (guard_target =~ Ar _ _ _; first | refine A1 ?_ | refine A2 ?_ | refine A3 ?_) | (guard_target =~ AskL _ _; first | refine L1 ?_) | (guard_target =~ Go.Eng.Ask _ _; first | refine K1 ?_) | (guard_target =~ All' _ _; first | (refine Y2 fun y he he' hy => ?_; (try dsimp only at he he' hy)) | (refine Y1 fun y he hy => ?_; (try with_reducible conv at he => (rhs; whnf)); (try dsimp only at he hy))) | refine F4 (fun h => ?_) fun h => ?_ | refine R1 ?_ | refine Q1 ?_ | fail)); all_goals (conv => whnf))
          refine All'.mk ?_; rintro (e' : Run) he'
          obtain rfl : (m, f, t) = e' := Option.some.inj (hce.symm.trans he')
          clear he'
          ((repeat' ((conv => whnf) <;> first | exact True.intro | (guard_target =~ Fork _ _ _; first | refine F1 ?_ | refine F2 ?_ | refine F3 (fun h => ?_) fun h => ?_) | (guard_target =~ Ar _ _ _; first | refine A1 ?_ | refine A2 ?_ | refine A3 ?_) | (guard_target =~ AskL _ _; first | refine L1 ?_) | (guard_target =~ Go.Eng.Ask _ _; first | refine K1 ?_) | (guard_target =~ All' _ _; first | (refine Y2 fun y he he' hy => ?_; (try dsimp only at he he' hy)) | (refine Y1 fun y he hy => ?_; (try with_reducible conv at he => (rhs; whnf)); (try dsimp only at he hy)) | (refine All'.mk ?_; intro y hy)) | refine F4 (fun h => ?_) fun h => ?_ | refine R1 ?_ | refine Q1 ?_ | fail)); all_goals (conv => whnf))
          refine CallP.mk (C := rDotC) (m, f) ?_
          ((repeat' ((conv => whnf) <;> first | exact True.intro | (guard_target =~ Fork _ _ _; first | refine F1 ?_ | refine F2 ?_ | refine F3 (fun h => ?_) fun h => ?_) | (guard_target =~ Ar _ _ _; first | refine A1 ?_ | refine A2 ?_ | refine A3 ?_) | (guard_target =~ AskL _ _; first | refine L1 ?_) | (guard_target =~ Go.Eng.Ask _ _; first | refine K1 ?_) | (guard_target =~ All' _ _; first | (refine Y2 fun y he he' hy => ?_; (try dsimp only at he he' hy)) | (refine Y1 fun y he hy => ?_; (try with_reducible conv at he => (rhs; whnf)); (try dsimp only at he hy)) | (refine All'.mk ?_; intro y hy)) | refine F4 (fun h => ?_) fun h => ?_ | refine R1 ?_ | refine Q1 ?_ | fail)); all_goals (conv => whnf))
          · refine CallP.mk (C := digitsC) t ?_
            ((repeat' ((conv => whnf) <;> first | exact True.intro | (guard_target =~ Fork _ _ _; first | refine F1 ?_ | refine F2 ?_ | refine F3 (fun h => ?_) fun h => ?_) | (guard_target =~ Ar _ _ _; first | refine A1 ?_ | refine A2 ?_ | refine A3 ?_) | (guard_target =~ AskL _ _; first | refine L1 ?_) | (guard_target =~ Go.Eng.Ask _ _; first | refine K1 ?_) | (guard_target =~ All' _ _; first | (refine Y2 fun y he he' hy => ?_; (try dsimp only at he he' hy)) | (refine Y1 fun y he hy => ?_; (try with_reducible conv at he => (rhs; whnf)); (try dsimp only at he hy)) | (refine All'.mk ?_; intro y hy)) | refine F4 (fun h => ?_) fun h => ?_ | refine R1 ?_ | refine Q1 ?_ | fail)); all_goals (conv => whnf))
            refine Some'.mk (i + 1 : Nat) ?_
            have hrw : runW (m, f, t) = dotW (m, f) ++ ([45] ++ decL t.toNat) := by
              have hft : f < t := by assumption
              show dotW (m, f) ++ (if f < t then [45] ++ decL t.toNat else []) = _
              rw [if_pos hft]
            ((repeat' ((conv => whnf) <;> first | exact True.intro | (guard_target =~ Fork _ _ _; first | refine F1 ?_ | refine F2 ?_ | refine F3 (fun h => ?_) fun h => ?_) | (guard_target =~ Ar _ _ _; first | refine A1 ?_ | refine A2 ?_ | refine A3 ?_) | (guard_target =~ Go.Eng.Ask _ _; first | refine K1 ?_) | (guard_target =~ All' _ _; first | (refine Y2 fun y he he' hy => ?_; (try dsimp only at he he' hy)) | (refine Y1 fun y he hy => ?_; (try with_reducible conv at he => (rhs; whnf)); (try dsimp only at he hy)) | (refine All'.mk ?_; intro y hy)) | refine F4 (fun h => ?_) fun h => ?_ | refine R1 ?_ | refine Q1 ?_ | fail)); all_goals (conv => whnf))
            refine AskL.mk ?_ (Ask.mk hpr (Ask.mk hmu trivial))
            (dsimp only [conj]; repeat' apply And.intro) <;> first | rfl | (rw [hstep, hrw, h32, h45]; simp only [str_cat, List.append_assoc])
          · refine Some'.mk (i + 1 : Nat) ?_
            have hrw : runW (m, f, t) = dotW (m, f) := by
              have hft : ¬ f < t := by assumption
              show dotW (m, f) ++ (if f < t then [45] ++ decL t.toNat else []) = _
              rw [if_neg hft, List.append_nil]
            ((repeat' ((conv => whnf) <;> first | exact True.intro | (guard_target =~ Fork _ _ _; first | refine F1 ?_ | refine F2 ?_ | refine F3 (fun h => ?_) fun h => ?_) | (guard_target =~ Ar _ _ _; first | refine A1 ?_ | refine A2 ?_ | refine A3 ?_) | (guard_target =~ Go.Eng.Ask _ _; first | refine K1 ?_) | (guard_target =~ All' _ _; first | (refine Y2 fun y he he' hy => ?_; (try dsimp only at he he' hy)) | (refine Y1 fun y he hy => ?_; (try with_reducible conv at he => (rhs; whnf)); (try dsimp only at he hy)) | (refine All'.mk ?_; intro y hy)) | refine F4 (fun h => ?_) fun h => ?_ | refine R1 ?_ | refine Q1 ?_ | fail)); all_goals (conv => whnf))
            refine AskL.mk ?_ (Ask.mk hpr (Ask.mk hmu trivial))
            (dsimp only [conj]; repeat' apply And.intro) <;> first | rfl | (rw [hstep, hrw, h32]; simp only [str_cat, List.append_assoc])
        · rw [if_neg hi0, List.nil_append] at hstep
          have z1 : (strOfNums (spc ((c.take i).map runW))).size + (strOfNums (dotW (m, f))).size ≤ 9223372036854775807 := by omega
          have z2 : (⟨#[45]⟩ : ByteArray).size + (strOfNums (decL t.toNat)).size ≤ 9223372036854775807 := by omega
          have z3 : ((strOfNums (spc ((c.take i).map runW))) ++ strOfNums (dotW (m, f))).size + ((⟨#[45]⟩ : ByteArray) ++ strOfNums (decL t.toNat)).size ≤ 9223372036854775807 := by rw [ByteArray.size_append, ByteArray.size_append]; omega
          ((repeat' ((conv => whnf) <;> first | exact True.intro | (guard_target =~ Fork _ _ _; first | refine F1 ?_ | refine F2 ?_ | refine F3 (fun h => ?_) fun h => ?_) | (guard_target =~ Ar _ _ _; first | refine A1 ?_ | refine A2 ?_ | refine A3 ?_) | (guard_target =~ AskL _ _; first | refine L1 ?_) | (guard_target =~ Go.Eng.Ask _ _; first | refine K1 ?_) | (guard_target =~ All' _ _; first | (refine Y2 fun y he he' hy => ?_; (try dsimp only at he he' hy)) | (refine Y1 fun y he hy => ?_; (try with_reducible conv at he => (rhs; whnf)); (try dsimp only at he hy))) | refine F4 (fun h => ?_) fun h => ?_ | refine R1 ?_ | refine Q1 ?_ | fail)); all_goals (conv => whnf))
          refine All'.mk ?_; rintro (e' : Run) he'
          obtain rfl : (m, f, t) = e' := Option.some.inj (hce.symm.trans he')
          clear he'
          ((repeat' ((conv => whnf) <;> first | exact True.intro | (guard_target =~ Fork _ _ _; first | refine F1 ?_ | refine F2 ?_ | refine F3 (fun h => ?_) fun h => ?_) | (guard_target =~ Ar _ _ _; first | refine A1 ?_ | refine A2 ?_ | refine A3 ?_) | (guard_target =~ AskL _ _; first | refine L1 ?_) | (guard_target =~ Go.Eng.Ask _ _; first | refine K1 ?_) | (guard_target =~ All' _ _; first | (refine Y2 fun y he he' hy => ?_; (try dsimp only at he he' hy)) | (refine Y1 fun y he hy => ?_; (try with_reducible conv at he => (rhs; whnf)); (try dsimp only at he hy)) | (refine All'.mk ?_; intro y hy)) | refine F4 (fun h => ?_) fun h => ?_ | refine R1 ?_ | refine Q1 ?_ | fail)); all_goals (conv => whnf))
          refine CallP.mk (C := rDotC) (m, f) ?_
          ((repeat' ((conv => whnf) <;> first | exact True.intro | (guard_target =~ Fork _ _ _; first | refine F1 ?_ | refine F2 ?_ | refine F3 (fun h => ?_) fun h => ?_) | (guard_target =~ Ar _ _ _; first | refine A1 ?_ | refine A2 ?_ | refine A3 ?_) | (guard_target =~ AskL _ _; first | refine L1 ?_) | (guard_target =~ Go.Eng.Ask _ _; first | refine K1 ?_) | (guard_target =~ All' _ _; first | (refine Y2 fun y he he' hy => ?_; (try dsimp only at he he' hy)) | (refine Y1 fun y he hy => ?_; (try with_reducible conv at he => (rhs; whnf)); (try dsimp only at he hy)) | (refine All'.mk ?_; intro y hy)) | refine F4 (fun h => ?_) fun h => ?_ | refine R1 ?_ | refine Q1 ?_ | fail)); all_goals (conv => whnf))
          · refine CallP.mk (C := digitsC) t ?_
            ((repeat' ((conv => whnf) <;> first | exact True.intro | (guard_target =~ Fork _ _ _; first | refine F1 ?_ | refine F2 ?_ | refine F3 (fun h => ?_) fun h => ?_) | (guard_target =~ Ar _ _ _; first | refine A1 ?_ | refine A2 ?_ | refine A3 ?_) | (guard_target =~ AskL _ _; first | refine L1 ?_) | (guard_target =~ Go.Eng.Ask _ _; first | refine K1 ?_) | (guard_target =~ All' _ _; first | (refine Y2 fun y he he' hy => ?_; (try dsimp only at he he' hy)) | (refine Y1 fun y he hy => ?_; (try with_reducible conv at he => (rhs; whnf)); (try dsimp only at he hy)) | (refine All'.mk ?_; intro y hy)) | refine F4 (fun h => ?_) fun h => ?_ | refine R1 ?_ | refine Q1 ?_ | fail)); all_goals (conv => whnf))
            refine Some'.mk (i + 1 : Nat) ?_
            have hrw : runW (m, f, t) = dotW (m, f) ++ ([45] ++ decL t.toNat) := by
              have hft : f < t := by assumption
              show dotW (m, f) ++ (if f < t then [45] ++ decL t.toNat else []) = _
              rw [if_pos hft]
            ((repeat' ((conv => whnf) <;> first | exact True.intro | (guard_target =~ Fork _ _ _; first | refine F1 ?_ | refine F2 ?_ | refine F3 (fun h => ?_) fun h => ?_) | (guard_target =~ Ar _ _ _; first | refine A1 ?_ | refine A2 ?_ | refine A3 ?_) | (guard_target =~ Go.Eng.Ask _ _; first | refine K1 ?_) | (guard_target =~ All' _ _; first | (refine Y2 fun y he he' hy => ?_; (try dsimp only at he he' hy)) | (refine Y1 fun y he hy => ?_; (try with_reducible conv at he => (rhs; whnf)); (try dsimp only at he hy)) | (refine All'.mk ?_; intro y hy)) | refine F4 (fun h => ?_) fun h => ?_ | refine R1 ?_ | refine Q1 ?_ | fail)); all_goals (conv => whnf))
            refine AskL.mk ?_ (Ask.mk hpr (Ask.mk hmu trivial))
            (dsimp only [conj]; repeat' apply And.intro) <;> first | rfl | (rw [hstep, hrw, h45]; simp only [str_cat, List.append_assoc])
          · refine Some'.mk (i + 1 : Nat) ?_
            have hrw : runW (m, f, t) = dotW (m, f) := by
              have hft : ¬ f < t := by assumption
              show dotW (m, f) ++ (if f < t then [45] ++ decL t.toNat else []) = _
              rw [if_neg hft, List.append_nil]
            ((repeat' ((conv => whnf) <;> first | exact True.intro | (guard_target =~ Fork _ _ _; first | refine F1 ?_ | refine F2 ?_ | refine F3 (fun h => ?_) fun h => ?_) | (guard_target =~ Ar _ _ _; first | refine A1 ?_ | refine A2 ?_ | refine A3 ?_) | (guard_target =~ Go.Eng.Ask _ _; first | refine K1 ?_) | (guard_target =~ All' _ _; first | (refine Y2 fun y he he' hy => ?_; (try dsimp only at he he' hy)) | (refine Y1 fun y he hy => ?_; (try with_reducible conv at he => (rhs; whnf)); (try dsimp only at he hy)) | (refine All'.mk ?_; intro y hy)) | refine F4 (fun h => ?_) fun h => ?_ | refine R1 ?_ | refine Q1 ?_ | fail)); all_goals (conv => whnf))
            refine AskL.mk ?_ (Ask.mk hpr (Ask.mk hmu trivial))
            (dsimp only [conj]; repeat' apply And.intro) <;> first | rfl | (rw [hstep, hrw]; simp only [str_cat, List.append_assoc])
end Go.Proofs.YtoaaieiiamdopaaGreatDoor

namespace Go.Proofs.YtoaaieiiamdopaaGreatDoor
open Go.Shelf Go.RowKit Go.Sort Go.Lib Go.Eng
set_option linter.unusedVariables false
set_option linter.unusedSimpArgs false
def cutS (s sep : ByteArray) : ByteArray × ByteArray × Bool :=
  (⟨(Lib.cut s.data.toList sep.data.toList).1.toArray⟩, ⟨(Lib.cut s.data.toList sep.data.toList).2.1.toArray⟩, (Lib.cut s.data.toList sep.data.toList).2.2)
@[reducible] def cutC : Ctr := {
  X := ByteArray × ByteArray
  Y := Unit
  args := fun x => [.v (.string x.1), .v (.string x.2)]
  rw := fun _ => []
  side := fun x => x.1.size < 4294967281
  val := fun _ => ()
  ens := fun _ _ => True
  res := fun x _ => .tuple [.v (.string (cutS x.1 x.2).1), .v (.string (cutS x.1 x.2).2.1), .v (.bool (cutS x.1 x.2).2.2)]
  out := fun _ _ => [] }
theorem sat_tuple3 (E : Env) (w : World) (a b c : Value) : Sat E w (.tuple [.v a, .v b, .v c]) (.tuple #[a, b, c]) :=
  .tuple _ _ (fun j => (#[a, b, c] : Array Value).getD j undef) rfl (fun j hj => by
    match j, hj with
    | 0, _ => rfl
    | 1, _ => rfl
    | 2, _ => rfl) (fun j sv hj => by
    match j, hj with
    | 0, hj => obtain rfl : SV.v a = sv := by simpa using hj
               exact .v _
    | 1, hj => obtain rfl : SV.v b = sv := by simpa using hj
               exact .v _
    | 2, hj => obtain rfl : SV.v c = sv := by simpa using hj
               exact .v _
    | j + 3, hj => simp at hj)
theorem cut_ok : cutC.ok Tryz.prog 55 := by
  refine ok_of_walk (fun _ => rfl) (fun _ => rfl) (fun x hs => ⟨trivial, fun E w vals hsz hv hg hI => ?_⟩)
  obtain ⟨s, t⟩ := x
  have h1 : s.size < 4294967281 := hs
  rw [vals_two hsz, sat_v (hv 0 _ rfl), sat_v (hv 1 _ rfl)]
  obtain ⟨a, ⟨m, ha⟩, hm⟩ := glob_some (g := 0) hg (List.mem_cons_of_mem _ (List.mem_cons_of_mem _ (List.mem_cons_of_mem _ (List.mem_cons_self ..))))
  refine (Tryz.strings_Cut s t m w h1 (hm _ ha)).mono ?_
  rintro e w' ⟨rfl, n, rfl⟩
  exact ⟨_, rfl, sat_tuple3 .., ⟨rfl, rfl, rfl, Nat.le_refl _, fun _ _ => rfl⟩, fun h => h.elim⟩
end Go.Proofs.YtoaaieiiamdopaaGreatDoor

set_option linter.unusedVariables false
set_option linter.unusedSimpArgs false
set_option maxRecDepth 100000
set_option maxHeartbeats 4000000
namespace Go.Proofs.YtoaaieiiamdopaaGreatDoor
open Go.Eng
theorem splitL_app {c : Int} : ∀ (a l : List Int), c ∉ a → splitL c (a ++ c :: l) = a :: splitL c l
  | [], l, _ => by simp [splitL]
  | b :: a, l, h => by
    have h1 : ¬ b = c := fun e => h (by rw [e]; exact List.mem_cons_self ..)
    rw [List.cons_append, splitL_cons_ne h1 (splitL_app a l (fun hc => h (List.mem_cons_of_mem _ hc)))]
theorem decL_isD : ∀ n : Nat, (decL n).all isD = true := fun n => by
  induction n using Nat.strongRecOn with
  | _ n ih =>
    by_cases h : n < 10
    · rw [decL_small h]; simp only [List.all_cons, List.all_nil, Bool.and_true, isD]; exact decide_eq_true (by omega)
    · rw [decL_great h, List.all_append, ih (n / 10) (by omega)]
      simp only [List.all_cons, List.all_nil, Bool.and_true, Bool.true_and, isD]; exact decide_eq_true (by omega)
theorem decL_ne (n : Nat) : decL n ≠ [] := by
  by_cases h : n < 10
  · rw [decL_small h]; simp
  · rw [decL_great h]; simp
theorem numV_dec : ∀ n : Nat, numV (decL n) = n := fun n => by
  induction n using Nat.strongRecOn with
  | _ n ih =>
    by_cases h : n < 10
    · rw [decL_small h]; simp [numV]; omega
    · rw [decL_great h, numV_snoc, ih (n / 10) (by omega)]; omega
theorem decL_head : ∀ n : Nat, 0 < n → (decL n)[0]? ≠ some 48 := fun n => by
  induction n using Nat.strongRecOn with
  | _ n ih =>
    intro hp
    by_cases h : n < 10
    · rw [decL_small h]; simp; omega
    · have h1 := ih (n / 10) (by omega) (by omega)
      have h2 := List.length_pos_iff.2 (decL_ne (n / 10))
      rw [decL_great h, List.getElem?_append_left h2]
      exact h1
theorem numOk_dec {n : Nat} (h : n ≤ 1099511627776) : numOk (decL n) = true := by
  unfold numOk
  rw [decL_isD, Bool.and_true]
  have h1 := List.length_pos_iff.2 (decL_ne n)
  have h2 := decL_len 12 n (by omega)
  refine decide_eq_true ⟨by omega, by omega, fun hh => ?_⟩
  rcases Nat.eq_zero_or_pos n with rfl | hp
  · rw [decL_small (by omega)] at hh; simp at hh
  · exact decL_head n hp hh.2
theorem dec_num : ∀ (k : Nat) (t : List Int), t.length = k + 1 → t.all isD = true → (1 < t.length → t[0]? ≠ some 48) → 0 ≤ numV t ∧ (t[0]? ≠ some 48 → 0 < numV t) ∧ decL (numV t).toNat = t
  | 0, [c], _, ha, _ => by
    have hc : 48 ≤ c ∧ c ≤ 57 := by simpa [isD] using ha
    have e : numV [c] = c - 48 := by simp [numV]
    rw [e, decL_small (by omega)]
    refine ⟨by omega, fun h => ?_, ?_⟩
    · have : ¬ c = 48 := fun e => h (by rw [e]; rfl)
      omega
    · congr 1; omega
  | k + 1, t, hl, ha, hz => by
    have hne : t ≠ [] := fun e => by rw [e] at hl; simp at hl
    obtain ⟨u, c, rfl⟩ : ∃ u c, t = u ++ [c] := ⟨t.dropLast, t.getLast hne, (List.dropLast_concat_getLast hne).symm⟩
    rw [List.length_append, List.length_singleton] at hl
    rw [List.all_append, Bool.and_eq_true] at ha
    have hc : 48 ≤ c ∧ c ≤ 57 := by simpa [isD] using ha.2
    have h0 : (u ++ [c])[0]? = u[0]? := List.getElem?_append_left (by omega)
    have hz' : u[0]? ≠ some 48 := by rw [← h0]; exact hz (by rw [List.length_append, List.length_singleton]; omega)
    obtain ⟨i1, i2, i3⟩ := dec_num k u (by omega) ha.1 (fun _ => hz')
    have hp := i2 hz'
    rw [numV_snoc]
    refine ⟨by omega, fun _ => by omega, ?_⟩
    have e1 : (numV u * 10 + (c - 48)).toNat / 10 = (numV u).toNat := by omega
    rw [decL_great (by omega), e1, i3]
    congr 2; omega
  | 0, [], h, _, _ => by simp at h
  | 0, _ :: _ :: _, h, _, _ => by simp at h
theorem num_canon {t : List Int} (h : numOk t = true) : 0 ≤ numV t ∧ decL (numV t).toNat = t := by
  unfold numOk at h
  rw [Bool.and_eq_true] at h
  obtain ⟨h1, h2, h3⟩ := of_decide_eq_true h.1
  obtain ⟨a, _, b⟩ := dec_num (t.length - 1) t (by omega) h.2 (fun hl e => h3 ⟨hl, e⟩)
  exact ⟨a, b⟩

theorem parse_fold : ∀ (l : List UInt8) (acc k : Nat), acc < 10 ^ k → l.length + k ≤ 18 → (toI l).all isD = true → ∃ u : Nat, Lib.parseUint10 acc l = .ok u ∧ (u : Int) = (toI l).foldl (fun n c => n * 10 + (c - 48)) (acc : Int) ∧ u < 10 ^ (l.length + k)
  | [], acc, k, h, _, _ => ⟨acc, rfl, rfl, by simpa using h⟩
  | c :: l, acc, k, h, hl, ha => by
    simp only [toI, List.map_cons, List.all_cons, Bool.and_eq_true] at ha
    have hc : 48 ≤ c.toNat ∧ c.toNat ≤ 57 := by
      have := ha.1
      simp only [isD, decide_eq_true_eq] at this
      omega
    have hl' : l.length + (k + 1) ≤ 18 := by simp only [List.length_cons] at hl; omega
    have hp : 10 ^ k ≤ 10 ^ 17 := Nat.pow_le_pow_right (by decide) (by omega)
    have e17 : (10 : Nat) ^ 17 = 100000000000000000 := by decide
    obtain ⟨u, h1, h2, h3⟩ := parse_fold l (acc * 10 + (c.toNat - 48)) (k + 1) (by rw [Nat.pow_succ]; omega) hl' ha.2
    refine ⟨u, ?_, ?_, ?_⟩
    · rw [Lib.parseUint10, if_pos hc, if_neg (by omega), if_neg (by omega)]; exact h1
    · rw [h2]
      show _ = (toI l).foldl _ ((acc : Int) * 10 + ((c.toNat : Int) - 48))
      congr 1; omega
    · rw [List.length_cons, show l.length + 1 + k = l.length + (k + 1) by omega]; exact h3
theorem atoi_num {s : ByteArray} (h : (bytesL s).all isD = true) (h0 : 1 ≤ s.size) (h1 : s.size ≤ 18) : atoiN s = numV (bytesL s) := by
  have hsz : s.data.toList.length = s.size := by simp
  obtain ⟨u, p1, p2, p3⟩ := parse_fold s.data.toList 0 0 (by decide) (by omega) h
  have hu : u < 9223372036854775808 := by
    have : (10 : Nat) ^ (s.data.toList.length + 0) ≤ 10 ^ 18 := Nat.pow_le_pow_right (by decide) (by omega)
    have e18 : (10 : Nat) ^ 18 = 1000000000000000000 := by decide
    omega
  cases hl : s.data.toList with
  | nil => rw [hl] at hsz; simp at hsz; omega
  | cons c r =>
    have hc : isD (c.toNat : Int) = true := by
      have : (toI s.data.toList).all isD = true := h
      rw [hl] at this
      simp only [toI, List.map_cons, List.all_cons, Bool.and_eq_true] at this
      exact this.1
    simp only [isD, decide_eq_true_eq] at hc
    have e : Lib.atoiAll s.data.toList = .ok (u : Int) := by
      rw [hl, Lib.atoiAll_plain c r (by omega) (by omega), ← hl]
      have hm : Lib.parseMag s.data.toList = .ok u := by
        unfold Lib.parseMag
        rw [if_neg (by rw [hl]; simp)]; exact p1
      rw [hm]
      simp only [Lib.signless]
      rw [if_neg (by omega)]
    unfold atoiN
    rw [e]
    exact p2
theorem atoi_dec {n : Int} (h : 0 ≤ n ∧ n ≤ 1099511627776) : atoiN (strOfNums (decL n.toNat)) = n := by
  have hd := decL_isD n.toNat
  have hb : okB (decL n.toNat) := fun c hc => by
    have := List.all_eq_true.1 hd c hc
    simp only [isD, decide_eq_true_eq] at this
    omega
  have h1 := List.length_pos_iff.2 (decL_ne n.toNat)
  have h2 := decL_len 12 n.toNat (by omega)
  rw [atoi_num (by rw [bytes_str hb]; exact hd) (by rw [str_size]; omega) (by rw [str_size]; omega), bytes_str hb, numV_dec]
  omega

theorem split_spc : ∀ (ws : List (List Int)) (w : List Int), 32 ∉ w → (∀ t, t ∈ ws → 32 ∉ t) → splitL 32 (spc (w :: ws)) = w :: ws
  | [], w, hw, _ => by
    have e : spc [w] = w := by simp [spc, spT]
    rw [e]; exact splitL_free hw
  | v :: ws, w, hw, h => by
    have e : spc (w :: v :: ws) = w ++ 32 :: spc (v :: ws) := by simp [spc, spT]
    rw [e, splitL_app _ _ hw, split_spc ws v (h v (List.mem_cons_self ..)) (fun t ht => h t (List.mem_cons_of_mem _ ht))]
theorem spc_split : ∀ l : List Int, spc (splitL 32 l) = l
  | [] => rfl
  | b :: l => by
    have ih := spc_split l
    cases hl : splitL 32 l with
    | nil => exact absurd hl (splitL_ne 32 l)
    | cons v vs =>
      rw [hl] at ih
      by_cases hb : b = 32
      · rw [splitL, if_pos hb, hl]
        have e : spc ([] :: v :: vs) = 32 :: spc (v :: vs) := by simp [spc, spT]
        rw [e, ih, hb]
      · rw [splitL_cons_ne hb hl]
        have e : spc ((b :: v) :: vs) = b :: spc (v :: vs) := by simp [spc]
        rw [e, ih]
/-- A text cut in two is what it was cut out of. -/
theorem split_two : ∀ (c : Int) (l a b : List Int), splitL c l = [a, b] → l = a ++ [c] ++ b
  | c, [], a, b, h => by simp [splitL] at h
  | c, x :: l, a, b, h => by
    cases hl : splitL c l with
    | nil => exact absurd hl (splitL_ne c l)
    | cons v vs =>
      by_cases hx : x = c
      · rw [splitL, if_pos hx, hl] at h
        simp only [List.cons.injEq] at h
        obtain ⟨rfl, rfl, rfl⟩ := h
        have := split_one c l v hl
        rw [this, hx]; rfl
      · rw [splitL_cons_ne hx hl] at h
        simp only [List.cons.injEq] at h
        obtain ⟨rfl, rfl⟩ := h
        rw [split_two c l v b hl]; rfl
where split_one : ∀ (c : Int) (l a : List Int), splitL c l = [a] → l = a
  | c, [], a, h => by simpa [splitL] using h
  | c, x :: l, a, h => by
    cases hl : splitL c l with
    | nil => exact absurd hl (splitL_ne c l)
    | cons v vs =>
      by_cases hx : x = c
      · rw [splitL, if_pos hx, hl] at h
        simp at h
      · rw [splitL_cons_ne hx hl] at h
        simp only [List.cons.injEq] at h
        obtain ⟨rfl, rfl⟩ := h
        rw [split_one c l v hl]

theorem index_cons (b c : UInt8) (l : List UInt8) (h : ¬ b = c) : Lib.index (b :: l) [c] = if Lib.index l [c] == -1 then -1 else Lib.index l [c] + 1 := by
  have hp : ([c] : List UInt8).isPrefixOf (b :: l) = false := by simp [List.isPrefixOf, Ne.symm h]
  rw [Lib.index, hp]; simp
theorem index_free : ∀ (c : UInt8) (l : List UInt8), c ∉ l → Lib.index l [c] = -1
  | c, [], _ => by simp [Lib.index]
  | c, b :: l, h => by
    rw [index_cons b c l (fun e => h (by rw [e]; exact List.mem_cons_self ..)), index_free c l (fun hc => h (List.mem_cons_of_mem _ hc))]; rfl
theorem index_app : ∀ (c : UInt8) (a b : List UInt8), c ∉ a → Lib.index (a ++ c :: b) [c] = (a.length : Nat)
  | c, [], b, _ => by simp [Lib.index, List.isPrefixOf]
  | c, x :: a, b, h => by
    have h1 : ¬ x = c := fun e => h (by rw [e]; exact List.mem_cons_self ..)
    rw [List.cons_append, index_cons x c _ h1, index_app c a b (fun hc => h (List.mem_cons_of_mem _ hc))]
    have : (((a.length : Nat) : Int) == -1) = false := by simp
    rw [this]; simp
theorem strs_data (l : List Int) : (strOfNums l).data.toList = l.map fun n => UInt8.ofNat n.toNat := strOfNums_data l
theorem u8_mem {c : Int} {l : List Int} (hl : okB l) (h0 : 0 ≤ c) (h1 : c < 256) (h : c ∉ l) : UInt8.ofNat c.toNat ∉ l.map fun n => UInt8.ofNat n.toNat := fun hm => by
  obtain ⟨x, hx, e⟩ := List.mem_map.1 hm
  have hk := hl x hx
  have e2 := congrArg UInt8.toNat e
  rw [UInt8.toNat_ofNat', UInt8.toNat_ofNat', Nat.mod_eq_of_lt (by omega), Nat.mod_eq_of_lt (by omega)] at e2
  have : x = c := by omega
  exact h (this ▸ hx)
theorem cut_free {c : Int} {l : List Int} (hl : okB l) (h0 : 0 ≤ c) (h1 : c < 256) (h : c ∉ l) : cutS (strOfNums l) (strOfNums [c]) = (strOfNums l, ⟨#[]⟩, false) := by
  unfold cutS Lib.cut
  have e := index_free (UInt8.ofNat c.toNat) _ (u8_mem hl h0 h1 h)
  have e1 : (strOfNums [c]).data.toList = [UInt8.ofNat c.toNat] := strs_data [c]
  rw [e1, strs_data, e, if_neg (by omega), ← strs_data]
theorem cut_at {c : Int} {a b : List Int} (hl : okB a) (h0 : 0 ≤ c) (h1 : c < 256) (h : c ∉ a) : cutS (strOfNums (a ++ [c] ++ b)) (strOfNums [c]) = (strOfNums a, strOfNums b, true) := by
  unfold cutS Lib.cut
  have e1 : (strOfNums [c]).data.toList = [UInt8.ofNat c.toNat] := strs_data [c]
  have e2 : (strOfNums (a ++ [c] ++ b)).data.toList = (strOfNums a).data.toList ++ UInt8.ofNat c.toNat :: (strOfNums b).data.toList := by
    rw [strs_data, strs_data, strs_data]; simp
  have e := index_app (UInt8.ofNat c.toNat) (strOfNums a).data.toList (strOfNums b).data.toList (by rw [strs_data]; exact u8_mem hl h0 h1 h)
  rw [e1, e2, e, if_pos (by omega)]
  have e3 : (((strOfNums a).data.toList.length : Nat) : Int).toNat = (strOfNums a).data.toList.length := by omega
  have d1 : ((strOfNums a).data.toList ++ UInt8.ofNat c.toNat :: (strOfNums b).data.toList).take (strOfNums a).data.toList.length = (strOfNums a).data.toList := List.take_left
  have d2 : ((strOfNums a).data.toList ++ UInt8.ofNat c.toNat :: (strOfNums b).data.toList).drop ((strOfNums a).data.toList.length + [UInt8.ofNat c.toNat].length) = (strOfNums b).data.toList := by rw [← List.drop_drop, List.drop_left]; rfl
  rw [e3]
  dsimp only
  rw [d1, d2]
theorem dec_free {n : Nat} {c : Int} (h : isD c = false) : c ∉ decL n := fun hc => by
  have := List.all_eq_true.1 (decL_isD n) c hc
  rw [h] at this; cases this
theorem okB_dec (n : Nat) : okB (decL n) := fun c hc => by
  have := List.all_eq_true.1 (decL_isD n) c hc
  simp only [isD, decide_eq_true_eq] at this
  omega
def wordR (w : ByteArray) : Run :=
  (atoiN (cutS w (strOfNums [58])).1, atoiN (cutS (cutS w (strOfNums [58])).2.1 (strOfNums [45])).1,
    if (cutS (cutS w (strOfNums [58])).2.1 (strOfNums [45])).2.2 then atoiN (cutS (cutS w (strOfNums [58])).2.1 (strOfNums [45])).2.1 else atoiN (cutS (cutS w (strOfNums [58])).2.1 (strOfNums [45])).1)
theorem wordR_runW {r : Run} (h : runP r) : wordR (strOfNums (runW r)) = r := by
  obtain ⟨m, f, t⟩ := r
  obtain ⟨q1, q2, q3, q4, q5⟩ : 0 ≤ m ∧ m ≤ 7 ∧ 1 ≤ f ∧ f ≤ t ∧ t ≤ 1099511627776 := h
  have hm : atoiN (strOfNums (decL m.toNat)) = m := atoi_dec ⟨q1, by omega⟩
  have hf : atoiN (strOfNums (decL f.toNat)) = f := atoi_dec ⟨by omega, by omega⟩
  have ht : atoiN (strOfNums (decL t.toNat)) = t := atoi_dec ⟨by omega, by omega⟩
  have e1 : runW (m, f, t) = decL m.toNat ++ [58] ++ (decL f.toNat ++ (if f < t then [45] ++ decL t.toNat else [])) := by
    unfold runW; simp only [List.append_assoc]
  have c1 := cut_at (b := decL f.toNat ++ (if f < t then [45] ++ decL t.toNat else [])) (okB_dec m.toNat) (c := 58) (by omega) (by omega) (dec_free (by decide))
  unfold wordR
  rw [e1, c1]
  dsimp only
  by_cases hft : f < t
  · rw [if_pos hft]
    have c2 := cut_at (b := decL t.toNat) (okB_dec f.toNat) (c := 45) (by omega) (by omega) (dec_free (by decide))
    rw [← List.append_assoc, c2]
    dsimp only
    rw [hm, hf, ht]; rfl
  · rw [if_neg hft, List.append_nil]
    have c2 := cut_free (okB_dec f.toNat) (c := 45) (by omega) (by omega) (dec_free (by decide))
    rw [c2]
    dsimp only
    rw [hm, hf]
    have : f = t := by omega
    rw [this]; rfl
theorem okB_runW (r : Run) : okB (runW r) := by
  unfold runW
  refine okB_app (okB_app (okB_app (okB_dec _) ?_) (okB_dec _)) ?_
  · intro c hc; rcases List.mem_singleton.1 hc with rfl; omega
  · split
    · refine okB_app ?_ (okB_dec _)
      intro c hc; rcases List.mem_singleton.1 hc with rfl; omega
    · intro c hc; cases hc
theorem runW_free (r : Run) : (32 : Int) ∉ runW r := by
  unfold runW
  simp only [List.mem_append, List.mem_singleton, not_or]
  refine ⟨⟨⟨dec_free (by decide), by decide⟩, dec_free (by decide)⟩, ?_⟩
  split
  · simp only [List.mem_append, List.mem_singleton, not_or]
    exact ⟨by decide, dec_free (by decide)⟩
  · exact fun h => nomatch h
theorem runW_ne (r : Run) : runW r ≠ [] := fun h => by
  unfold runW at h
  simp at h
theorem okB_spc : ∀ ws : List (List Int), (∀ w, w ∈ ws → okB w) → okB (spc ws) := fun ws h => by
  have hT : ∀ ws : List (List Int), (∀ w, w ∈ ws → okB w) → okB (spT ws) := fun ws h c hc => by
    unfold spT at hc
    obtain ⟨w, hw, hcw⟩ := List.mem_flatten.1 hc
    obtain ⟨v, hv, rfl⟩ := List.mem_map.1 hw
    rcases List.mem_cons.1 hcw with rfl | hcw
    · omega
    · exact h v hv c hcw
  cases ws with
  | nil => intro c hc; cases hc
  | cons w ws => exact okB_app (h w (List.mem_cons_self ..)) (hT ws (fun v hv => h v (List.mem_cons_of_mem _ hv)))
/-- The clock that a text is read as. -/
def parse0 (s : ByteArray) : List Run := (splitS s ⟨#[32]⟩).map wordR
theorem parse0_text {c : List Run} (h : rightB c = true) (h0 : c ≠ []) : parse0 (strOfNums (textL c)) = c := by
  have ht : textL c = spc (c.map runW) := by unfold textL; rw [h, if_neg h0]; rfl
  have hok : okB (spc (c.map runW)) := okB_spc _ (fun w hw => by obtain ⟨r, _, rfl⟩ := List.mem_map.1 hw; exact okB_runW r)
  unfold parse0
  rw [ht, show (⟨#[32]⟩ : ByteArray) = ⟨#[(32 : UInt8)]⟩ from rfl, splitS_L, bytes_str hok]
  cases c with
  | nil => exact absurd rfl h0
  | cons r c =>
    have e : ((32 : UInt8).toNat : Int) = 32 := rfl
    rw [e, List.map_cons, split_spc _ _ (runW_free r) (fun t ht => by obtain ⟨r, _, rfl⟩ := List.mem_map.1 ht; exact runW_free r)]
    rw [← List.map_cons, List.map_map, List.map_map]
    conv => rhs; rw [← List.map_id (r :: c)]
    refine List.map_congr_left fun x hx => ?_
    obtain ⟨k, hk⟩ := List.getElem?_of_mem hx
    exact wordR_runW (right_runs h hk)
/-- What Parse answers. -/
def parsedOk (s : ByteArray) : Prop := s = ⟨#[45]⟩ ∨ (s ≠ ⟨#[]⟩ ∧ strOfNums (textL (parse0 s)) = s)
open Classical in
noncomputable def parsedB (s : ByteArray) : Bool := decide (parsedOk s)
open Classical in
noncomputable def parsedL (s : ByteArray) : List Run := if s = ⟨#[45]⟩ then [] else if parsedOk s then parse0 s else []
end Go.Proofs.YtoaaieiiamdopaaGreatDoor

set_option linter.unusedVariables false
set_option linter.unusedSimpArgs false
set_option maxRecDepth 100000
set_option maxHeartbeats 4000000
namespace Go.Proofs.YtoaaieiiamdopaaGreatDoor
open Go.Eng
theorem str_eq {a b : ByteArray} : a.toList = b.toList ↔ a = b := by
  simp only [ByteArray.toList_eq]
  exact ⟨fun h => ByteArray.ext (Array.toList_inj.1 h), fun h => by rw [h]⟩
open Classical in
theorem parsedB_true {s : ByteArray} (h : parsedOk s) : parsedB s = true := decide_eq_true h
open Classical in
theorem parsedB_false {s : ByteArray} (h : ¬ parsedOk s) : parsedB s = false := decide_eq_false h
theorem parsedL_no {s : ByteArray} (h : ¬ parsedOk s) : parsedL s = [] := by
  unfold parsedL
  by_cases e : s = ⟨#[45]⟩
  · rw [if_pos e]
  · rw [if_neg e, if_neg h]
theorem parsedL_yes {s : ByteArray} (h1 : ¬ s = ⟨#[45]⟩) (h : parsedOk s) : parsedL s = parse0 s := by
  unfold parsedL
  rw [if_neg h1, if_pos h]
theorem bz (l : List UInt8) : (⟨l.toArray⟩ : ByteArray).size = l.length := by show l.toArray.size = _; simp
theorem dz (s : ByteArray) : s.data.toList.length = s.size := by simp
theorem cut_le (s t : ByteArray) : (cutS s t).1.size ≤ s.size ∧ (cutS s t).2.1.size ≤ s.size := by
  unfold cutS
  dsimp only
  have hz := dz s
  have a1 := bz (Lib.cut s.data.toList t.data.toList).1
  have a2 := bz (Lib.cut s.data.toList t.data.toList).2.1
  rw [a1, a2]
  have h : (Lib.cut s.data.toList t.data.toList).1.length ≤ s.data.toList.length ∧ (Lib.cut s.data.toList t.data.toList).2.1.length ≤ s.data.toList.length := by
    unfold Lib.cut
    split
    · dsimp only
      rw [List.length_take, List.length_drop]; omega
    · dsimp only
      exact ⟨Nat.le_refl _, Nat.zero_le _⟩
  rw [hz] at h
  exact h
theorem word_le {s w : ByteArray} (h : w ∈ splitS s ⟨#[32]⟩) : w.size ≤ s.size := by
  rw [show (⟨#[32]⟩ : ByteArray) = ⟨#[(32 : UInt8)]⟩ from rfl, splitS_L] at h
  obtain ⟨l, hl, rfl⟩ := List.mem_map.1 h
  have := (splitL_mem _ _ _ hl).1
  rw [bytesL_length] at this
  rw [str_size]; exact this
theorem words_le (s : ByteArray) : (splitS s ⟨#[32]⟩).length ≤ s.size + 1 := by
  rw [show (⟨#[32]⟩ : ByteArray) = ⟨#[(32 : UInt8)]⟩ from rfl, splitS_L, List.length_map]
  have := splitL_le (((32 : UInt8).toNat : Nat) : Int) (bytesL s)
  rw [bytesL_length] at this; exact this
@[reducible] def dnumC : Ctr := {
  X := ByteArray
  Y := Unit
  args := fun s => [.v (.string s)]
  rw := fun _ => []
  side := fun s => s.size ≤ 281474976710656
  val := fun _ => ()
  ens := fun _ _ => True
  res := fun s _ => .v (.int .i64 (atoiN s))
  out := fun _ _ => [] }
theorem knownT4 : Known Tryz.prog (gOf [(79, atoiC)]) := known_cons ⟨atoi_ok, Tryz.call79⟩ (known_nil _)
theorem dnum_ok : dnumC.ok Tryz.prog 56 := by
  refine ok_of_vc (An := fun _ => anOf []) knownT4 mo Tryz.func56 (by kernel_rfl) (by kernel_rfl) (fun _ _ => trivial) (fun (s : ByteArray) hs => ?_)
  have hs : s.size ≤ 281474976710656 := hs
  ((repeat' ((conv => whnf) <;> first | exact True.intro | (guard_target =~ Fork _ _ _; first | refine F1 ?_ | refine F2 ?_ | refine F3 (fun h => ?_) fun h => ?_) | (guard_target =~ Ar _ _ _; first | refine A1 ?_ | refine A2 ?_ | refine A3 ?_) | (guard_target =~ AskL _ _; first | refine L1 ?_) | (guard_target =~ Go.Eng.Ask _ _; first | refine K1 ?_) | (guard_target =~ All' _ _; first | (refine Y2 fun y he he' hy => ?_; (try dsimp only at he he' hy)) | (refine Y1 fun y he hy => ?_; (try with_reducible conv at he => (rhs; whnf)); (try dsimp only at he hy)) | (refine All'.mk ?_; intro y hy)) | refine F4 (fun h => ?_) fun h => ?_ | refine R1 ?_ | refine Q1 ?_ | fail)); all_goals (conv => whnf))
  refine CallP.mk (C := atoiC) s ?_
  exact G1
noncomputable def dparseC : Ctr := {
  X := ByteArray
  Y := Unit
  args := fun s => [.v (.string s)]
  rw := fun _ => []
  side := fun s => s.size ≤ 100000
  val := fun _ => ()
  ens := fun _ _ => True
  res := fun s _ => .tuple [.sl 1000, .v (.bool (parsedB s))]
  out := fun s _ => [(1000, .row 57 runT (parsedL s))] }
attribute [reducible] dparseC
def wordsR (s : ByteArray) (i : Nat) : List Run := ((splitS s ⟨#[32]⟩).take i).map wordR
@[reducible] def dparseL (s : ByteArray) : LA := {
  X := Nat
  pre := fun i => i ≤ (splitS s ⟨#[32]⟩).length
  mu := fun i => (splitS s ⟨#[32]⟩).length - i
  T := fun i => [(0, .v (.string s)), (4, .sl 2), (20, .ro true .str (splitS s ⟨#[32]⟩)), (21, .v (.int .i64 (splitS s ⟨#[32]⟩).length)), (22, .v (.int .i64 (i : Nat)))]
  M := fun i => [(2, .row 57 runT (wordsR s i))] }
theorem knownT5 : Known Tryz.prog (gOf [(54, splitC), (55, cutC), (56, dnumC), (22, dtextC)]) :=
  known_cons ⟨split_ok, Tryz.call54⟩ (known_cons ⟨cut_ok, Tryz.call55⟩ (known_cons ⟨dnum_ok, Tryz.call56⟩ (known_cons ⟨dtext_ok, Tryz.call22⟩ (known_nil _))))
theorem dparse_ok : dparseC.ok Tryz.prog 16 := by
  refine ok_of_vc (An := fun s => anOf [(1, .loop (dparseL s))]) knownT5 mo Tryz.func16 (by kernel_rfl) (by kernel_rfl) (fun _ _ => trivial) (fun (s : ByteArray) hs => ?_)
  have hs : s.size ≤ 100000 := hs
  by_cases h1 : s = ⟨#[45]⟩
  · subst h1
    have k1 : parsedB ⟨#[45]⟩ = true := parsedB_true (.inl rfl)
    have k2 : parsedL ⟨#[45]⟩ = [] := if_pos rfl
    have lm := And.intro k1 k2
    exact G1
  · by_cases h2 : s = ⟨#[]⟩
    · subst h2
      have k0 : ¬ parsedOk ⟨#[]⟩ := fun h => h.elim (fun e => absurd e h1) (fun e => e.1 rfl)
      have k1 := parsedB_false k0
      have k2 := parsedL_no k0
      have g1 : ¬ (⟨#[]⟩ : ByteArray).toList = (⟨#[45]⟩ : ByteArray).toList := fun h => h1 (str_eq.1 h)
      have lm := And.intro k1 k2
      exact G1
    · have g1 : ¬ s.toList = (⟨#[45]⟩ : ByteArray).toList := fun h => h1 (str_eq.1 h)
      have g2 : ¬ s.toList = (⟨#[]⟩ : ByteArray).toList := fun h => h2 (str_eq.1 h)
      have hwl := words_le s
      ((repeat' ((conv => whnf) <;> first | exact True.intro | (guard_target =~ Fork _ _ _; first | refine F1 ?_ | refine F2 ?_ | refine F3 (fun h => ?_) fun h => ?_) | (guard_target =~ Ar _ _ _; first | refine A1 ?_ | refine A2 ?_ | refine A3 ?_) | (guard_target =~ AskL _ _; first | refine L1 ?_) | (guard_target =~ Go.Eng.Ask _ _; first | refine K1 ?_) | (guard_target =~ All' _ _; first | (refine Y2 fun y he he' hy => ?_; (try dsimp only at he he' hy)) | (refine Y1 fun y he hy => ?_; (try with_reducible conv at he => (rhs; whnf)); (try dsimp only at he hy)) | (refine All'.mk ?_; intro y hy)) | refine F4 (fun h => ?_) fun h => ?_ | refine R1 ?_ | refine Q1 ?_ | fail)); all_goals (conv => whnf))
      have hsp : s.size < 4294967281 ∧ 1 ≤ (⟨#[32]⟩ : ByteArray).size := ⟨by omega, by decide⟩
      have hw0 : wordsR s 0 = [] := rfl
      refine CallP.mk (C := splitC) ⟨s, ⟨#[32]⟩⟩ ?_
      ((repeat' ((conv => whnf) <;> first | exact True.intro | (guard_target =~ Fork _ _ _; first | refine F1 ?_ | refine F2 ?_ | refine F3 (fun h => ?_) fun h => ?_) | (guard_target =~ Ar _ _ _; first | refine A1 ?_ | refine A2 ?_ | refine A3 ?_) | (guard_target =~ AskL _ _; first | refine L1 ?_) | (guard_target =~ Go.Eng.Ask _ _; first | refine K1 ?_) | (guard_target =~ All' _ _; first | (refine Y2 fun y he he' hy => ?_; (try dsimp only at he he' hy)) | (refine Y1 fun y he hy => ?_; (try with_reducible conv at he => (rhs; whnf)); (try dsimp only at he hy)) | (refine All'.mk ?_; intro y hy)) | refine F4 (fun h => ?_) fun h => ?_ | refine R1 ?_ | refine Q1 ?_ | fail)); all_goals (conv => whnf))
      refine Some'.mk (0 : Nat) ?_
      have lm := hw0
      ((repeat' ((conv => whnf) <;> first | exact True.intro | (guard_target =~ Fork _ _ _; first | refine F1 ?_ | refine F2 ?_ | refine F3 (fun h => ?_) fun h => ?_) | (guard_target =~ Ar _ _ _; first | refine A1 ?_ | refine A2 ?_ | refine A3 ?_) | (guard_target =~ AskL _ _; first | refine L1 ?_) | (guard_target =~ Go.Eng.Ask _ _; first | refine K1 ?_) | (guard_target =~ All' _ _; first | (refine Y2 fun y he he' hy => ?_; (try dsimp only at he he' hy)) | (refine Y1 fun y he hy => ?_; (try with_reducible conv at he => (rhs; whnf)); (try dsimp only at he hy)) | (refine All'.mk ?_; intro y hy)) | refine F4 (fun h => ?_) fun h => ?_ | refine R1 ?_ | refine Q1 ?_ | fail)); all_goals (conv => whnf))
      refine AllI.mk ?_
      rintro (i : Nat) hi
      have hi : i ≤ (splitS s ⟨#[32]⟩).length := hi
      by_cases hie : i = (splitS s ⟨#[32]⟩).length
      · subst hie
        have hX : ((splitS s ⟨#[32]⟩).take (splitS s ⟨#[32]⟩).length).map wordR = parse0 s := by rw [List.take_length]; rfl
        have hXl : (((splitS s ⟨#[32]⟩).take (splitS s ⟨#[32]⟩).length).map wordR).length ≤ 1000000 := by rw [hX]; unfold parse0; rw [List.length_map]; omega
        by_cases h3 : strOfNums (textL (parse0 s)) = s
        · have k0 : parsedOk s := .inr ⟨h2, h3⟩
          have k1 := parsedB_true k0
          have k2 : parsedL s = wordsR s (splitS s ⟨#[32]⟩).length := (parsedL_yes h1 k0).trans hX.symm
          have g3 : (strOfNums (textL (((splitS s ⟨#[32]⟩).take (splitS s ⟨#[32]⟩).length).map wordR))).toList = s.toList := by rw [hX, h3]
          clear hX h3
          have lm := And.intro k1 k2
          ((repeat' ((conv => whnf) <;> first | exact True.intro | (guard_target =~ Fork _ _ _; first | refine F1 ?_ | refine F2 ?_ | refine F3 (fun h => ?_) fun h => ?_) | (guard_target =~ Ar _ _ _; first | refine A1 ?_ | refine A2 ?_ | refine A3 ?_) | (guard_target =~ AskL _ _; first | refine L1 ?_) | (guard_target =~ Go.Eng.Ask _ _; first | refine K1 ?_) | (guard_target =~ All' _ _; first | (refine Y2 fun y he he' hy => ?_; (try dsimp only at he he' hy)) | (refine Y1 fun y he hy => ?_; (try with_reducible conv at he => (rhs; whnf)); (try dsimp only at he hy)) | (refine All'.mk ?_; intro y hy)) | refine F4 (fun h => ?_) fun h => ?_ | refine R1 ?_ | refine Q1 ?_ | fail)); all_goals (conv => whnf))
          refine CallP.mk (C := dtextC) (((splitS s ⟨#[32]⟩).take (splitS s ⟨#[32]⟩).length).map wordR) ?_
          exact G1
        · have k0 : ¬ parsedOk s := fun h => h.elim h1 (fun e => h3 e.2)
          have k1 := parsedB_false k0
          have k2 := parsedL_no k0
          have g3 : ¬ (strOfNums (textL (((splitS s ⟨#[32]⟩).take (splitS s ⟨#[32]⟩).length).map wordR))).toList = s.toList := by rw [hX]; exact fun h => h3 (str_eq.1 h)
          clear hX
          have lm := And.intro k1 k2
          ((repeat' ((conv => whnf) <;> first | exact True.intro | (guard_target =~ Fork _ _ _; first | refine F1 ?_ | refine F2 ?_ | refine F3 (fun h => ?_) fun h => ?_) | (guard_target =~ Ar _ _ _; first | refine A1 ?_ | refine A2 ?_ | refine A3 ?_) | (guard_target =~ AskL _ _; first | refine L1 ?_) | (guard_target =~ Go.Eng.Ask _ _; first | refine K1 ?_) | (guard_target =~ All' _ _; first | (refine Y2 fun y he he' hy => ?_; (try dsimp only at he he' hy)) | (refine Y1 fun y he hy => ?_; (try with_reducible conv at he => (rhs; whnf)); (try dsimp only at he hy)) | (refine All'.mk ?_; intro y hy)) | refine F4 (fun h => ?_) fun h => ?_ | refine R1 ?_ | refine Q1 ?_ | fail)); all_goals (conv => whnf))
          refine CallP.mk (C := dtextC) (((splitS s ⟨#[32]⟩).take (splitS s ⟨#[32]⟩).length).map wordR) ?_
          exact G1
      · obtain ⟨w, hce⟩ : ∃ e, (splitS s ⟨#[32]⟩)[i]? = some e := ⟨_, List.getElem?_eq_getElem (by omega)⟩
        have hwz := word_le (List.mem_of_getElem? hce)
        have hstep : wordsR s (i + 1) = wordsR s i ++ [wordR w] := by unfold wordsR; rw [take_get hce, List.map_append]; rfl
        have hpr : (dparseL s).pre (i + 1) := by show i + 1 ≤ (splitS s ⟨#[32]⟩).length; omega
        have hmu : (dparseL s).mu (i + 1) < (dparseL s).mu i := by show (splitS s ⟨#[32]⟩).length - (i + 1) < (splitS s ⟨#[32]⟩).length - i; omega
        obtain ⟨hc1, hc2⟩ := cut_le w ⟨#[58]⟩
        obtain ⟨hc3, hc4⟩ := cut_le (cutS w ⟨#[58]⟩).2.1 ⟨#[45]⟩
        have hap : ∀ x : Run, (wordsR s i).length + [x].length ≤ 274877906944 := fun x => by unfold wordsR; rw [List.length_map, List.length_take, List.length_singleton]; omega
        have hapl : (((splitS s ⟨#[32]⟩).take i).map wordR).length ≤ 100001 := by rw [List.length_map, List.length_take]; omega
        cases hm : (cutS (cutS w ⟨#[58]⟩).2.1 ⟨#[45]⟩).2.2 with
        | true =>
          have hw : wordR w = (atoiN (cutS w ⟨#[58]⟩).1, atoiN (cutS (cutS w ⟨#[58]⟩).2.1 ⟨#[45]⟩).1, atoiN (cutS (cutS w ⟨#[58]⟩).2.1 ⟨#[45]⟩).2.1) := by
            show (_, _, if (cutS (cutS w ⟨#[58]⟩).2.1 ⟨#[45]⟩).2.2 then atoiN (cutS (cutS w ⟨#[58]⟩).2.1 ⟨#[45]⟩).2.1 else atoiN (cutS (cutS w ⟨#[58]⟩).2.1 ⟨#[45]⟩).1) = _
            rw [hm]; rfl
          rw [hw] at hstep
          clear hw
          have lm := hm
          ((repeat' ((conv => whnf) <;> first | exact True.intro | (guard_target =~ Fork _ _ _; first | refine F1 ?_ | refine F2 ?_ | refine F3 (fun h => ?_) fun h => ?_) | (guard_target =~ Ar _ _ _; first | refine A1 ?_ | refine A2 ?_ | refine A3 ?_) | (guard_target =~ AskL _ _; first | refine L1 ?_) | (guard_target =~ Go.Eng.Ask _ _; first | refine K1 ?_) | (guard_target =~ All' _ _; first | (refine Y2 fun y he he' hy => ?_; (try dsimp only at he he' hy)) | (refine Y1 fun y he hy => ?_; (try with_reducible conv at he => (rhs; whnf)); (try dsimp only at he hy))) | refine F4 (fun h => ?_) fun h => ?_ | refine R1 ?_ | refine Q1 ?_ | fail)); all_goals (conv => whnf))
          refine All'.mk ?_; rintro (e' : ByteArray) he'
          obtain rfl : w = e' := Option.some.inj (hce.symm.trans he')
          clear he'
          ((repeat' ((conv => whnf) <;> first | exact True.intro | (guard_target =~ Fork _ _ _; first | refine F1 ?_ | refine F2 ?_ | refine F3 (fun h => ?_) fun h => ?_) | (guard_target =~ Ar _ _ _; first | refine A1 ?_ | refine A2 ?_ | refine A3 ?_) | (guard_target =~ AskL _ _; first | refine L1 ?_) | (guard_target =~ Go.Eng.Ask _ _; first | refine K1 ?_) | (guard_target =~ All' _ _; first | (refine Y2 fun y he he' hy => ?_; (try dsimp only at he he' hy)) | (refine Y1 fun y he hy => ?_; (try with_reducible conv at he => (rhs; whnf)); (try dsimp only at he hy)) | (refine All'.mk ?_; intro y hy)) | refine F4 (fun h => ?_) fun h => ?_ | refine R1 ?_ | refine Q1 ?_ | fail)); all_goals (conv => whnf))
          refine CallP.mk (C := cutC) (w, ⟨#[58]⟩) ?_
          ((repeat' ((conv => whnf) <;> first | exact True.intro | (guard_target =~ Fork _ _ _; first | refine F1 ?_ | refine F2 ?_ | refine F3 (fun h => ?_) fun h => ?_) | (guard_target =~ Ar _ _ _; first | refine A1 ?_ | refine A2 ?_ | refine A3 ?_) | (guard_target =~ AskL _ _; first | refine L1 ?_) | (guard_target =~ Go.Eng.Ask _ _; first | refine K1 ?_) | (guard_target =~ All' _ _; first | (refine Y2 fun y he he' hy => ?_; (try dsimp only at he he' hy)) | (refine Y1 fun y he hy => ?_; (try with_reducible conv at he => (rhs; whnf)); (try dsimp only at he hy)) | (refine All'.mk ?_; intro y hy)) | refine F4 (fun h => ?_) fun h => ?_ | refine R1 ?_ | refine Q1 ?_ | fail)); all_goals (conv => whnf))
          refine CallP.mk (C := cutC) ((cutS w ⟨#[58]⟩).2.1, ⟨#[45]⟩) ?_
          ((repeat' ((conv => whnf) <;> first | exact True.intro | (guard_target =~ Fork _ _ _; first | refine F1 ?_ | refine F2 ?_ | refine F3 (fun h => ?_) fun h => ?_) | (guard_target =~ Ar _ _ _; first | refine A1 ?_ | refine A2 ?_ | refine A3 ?_) | (guard_target =~ AskL _ _; first | refine L1 ?_) | (guard_target =~ Go.Eng.Ask _ _; first | refine K1 ?_) | (guard_target =~ All' _ _; first | (refine Y2 fun y he he' hy => ?_; (try dsimp only at he he' hy)) | (refine Y1 fun y he hy => ?_; (try with_reducible conv at he => (rhs; whnf)); (try dsimp only at he hy)) | (refine All'.mk ?_; intro y hy)) | refine F4 (fun h => ?_) fun h => ?_ | refine R1 ?_ | refine Q1 ?_ | fail)); all_goals (conv => whnf))
          refine CallP.mk (C := dnumC) (cutS w ⟨#[58]⟩).1 ?_
          ((repeat' ((conv => whnf) <;> first | exact True.intro | (guard_target =~ Fork _ _ _; first | refine F1 ?_ | refine F2 ?_ | refine F3 (fun h => ?_) fun h => ?_) | (guard_target =~ Ar _ _ _; first | refine A1 ?_ | refine A2 ?_ | refine A3 ?_) | (guard_target =~ AskL _ _; first | refine L1 ?_) | (guard_target =~ Go.Eng.Ask _ _; first | refine K1 ?_) | (guard_target =~ All' _ _; first | (refine Y2 fun y he he' hy => ?_; (try dsimp only at he he' hy)) | (refine Y1 fun y he hy => ?_; (try with_reducible conv at he => (rhs; whnf)); (try dsimp only at he hy)) | (refine All'.mk ?_; intro y hy)) | refine F4 (fun h => ?_) fun h => ?_ | refine R1 ?_ | refine Q1 ?_ | fail)); all_goals (conv => whnf))
          refine CallP.mk (C := dnumC) (cutS (cutS w ⟨#[58]⟩).2.1 ⟨#[45]⟩).1 ?_
          ((repeat' ((conv => whnf) <;> first | exact True.intro | (guard_target =~ Fork _ _ _; first | refine F1 ?_ | refine F2 ?_ | refine F3 (fun h => ?_) fun h => ?_) | (guard_target =~ Ar _ _ _; first | refine A1 ?_ | refine A2 ?_ | refine A3 ?_) | (guard_target =~ AskL _ _; first | refine L1 ?_) | (guard_target =~ Go.Eng.Ask _ _; first | refine K1 ?_) | (guard_target =~ All' _ _; first | (refine Y2 fun y he he' hy => ?_; (try dsimp only at he he' hy)) | (refine Y1 fun y he hy => ?_; (try with_reducible conv at he => (rhs; whnf)); (try dsimp only at he hy)) | (refine All'.mk ?_; intro y hy)) | refine F4 (fun h => ?_) fun h => ?_ | refine R1 ?_ | refine Q1 ?_ | fail)); all_goals (conv => whnf))
          refine CallP.mk (C := dnumC) (cutS (cutS w ⟨#[58]⟩).2.1 ⟨#[45]⟩).1 ?_
          ((repeat' ((conv => whnf) <;> first | exact True.intro | (guard_target =~ Fork _ _ _; first | refine F1 ?_ | refine F2 ?_ | refine F3 (fun h => ?_) fun h => ?_) | (guard_target =~ Ar _ _ _; first | refine A1 ?_ | refine A2 ?_ | refine A3 ?_) | (guard_target =~ AskL _ _; first | refine L1 ?_) | (guard_target =~ Go.Eng.Ask _ _; first | refine K1 ?_) | (guard_target =~ All' _ _; first | (refine Y2 fun y he he' hy => ?_; (try dsimp only at he he' hy)) | (refine Y1 fun y he hy => ?_; (try with_reducible conv at he => (rhs; whnf)); (try dsimp only at he hy)) | (refine All'.mk ?_; intro y hy)) | refine F4 (fun h => ?_) fun h => ?_ | refine R1 ?_ | refine Q1 ?_ | fail)); all_goals (conv => whnf))
          refine CallP.mk (C := dnumC) (cutS (cutS w ⟨#[58]⟩).2.1 ⟨#[45]⟩).2.1 ?_
          ((repeat' ((conv => whnf) <;> first | exact True.intro | (guard_target =~ Fork _ _ _; first | refine F1 ?_ | refine F2 ?_ | refine F3 (fun h => ?_) fun h => ?_) | (guard_target =~ Ar _ _ _; first | refine A1 ?_ | refine A2 ?_ | refine A3 ?_) | (guard_target =~ AskL _ _; first | refine L1 ?_) | (guard_target =~ Go.Eng.Ask _ _; first | refine K1 ?_) | (guard_target =~ All' _ _; first | (refine Y2 fun y he he' hy => ?_; (try dsimp only at he he' hy)) | (refine Y1 fun y he hy => ?_; (try with_reducible conv at he => (rhs; whnf)); (try dsimp only at he hy)) | (refine All'.mk ?_; intro y hy)) | refine F4 (fun h => ?_) fun h => ?_ | refine R1 ?_ | refine Q1 ?_ | fail)); all_goals (conv => whnf))
          refine Ask.mk (hap _) ?_
          ((repeat' ((conv => whnf) <;> first | exact True.intro | (guard_target =~ Fork _ _ _; first | refine F1 ?_ | refine F2 ?_ | refine F3 (fun h => ?_) fun h => ?_) | (guard_target =~ Ar _ _ _; first | refine A1 ?_ | refine A2 ?_ | refine A3 ?_) | (guard_target =~ AskL _ _; first | refine L1 ?_) | (guard_target =~ Go.Eng.Ask _ _; first | refine K1 ?_) | (guard_target =~ All' _ _; first | (refine Y2 fun y he he' hy => ?_; (try dsimp only at he he' hy)) | (refine Y1 fun y he hy => ?_; (try with_reducible conv at he => (rhs; whnf)); (try dsimp only at he hy))) | refine F4 (fun h => ?_) fun h => ?_ | refine R1 ?_ | refine Q1 ?_ | fail)); all_goals (conv => whnf))
          refine Some'.mk (i + 1 : Nat) ?_
          ((repeat' ((conv => whnf) <;> first | exact True.intro | (guard_target =~ Fork _ _ _; first | refine F1 ?_ | refine F2 ?_ | refine F3 (fun h => ?_) fun h => ?_) | (guard_target =~ Ar _ _ _; first | refine A1 ?_ | refine A2 ?_ | refine A3 ?_) | (guard_target =~ Go.Eng.Ask _ _; first | refine K1 ?_) | (guard_target =~ All' _ _; first | (refine Y2 fun y he he' hy => ?_; (try dsimp only at he he' hy)) | (refine Y1 fun y he hy => ?_; (try with_reducible conv at he => (rhs; whnf)); (try dsimp only at he hy)) | (refine All'.mk ?_; intro y hy)) | refine F4 (fun h => ?_) fun h => ?_ | refine R1 ?_ | refine Q1 ?_ | fail)); all_goals (conv => whnf))
          refine AskL.mk ?_ (Ask.mk hpr (Ask.mk hmu trivial))
          (dsimp only [conj]; repeat' apply And.intro) <;> first | rfl | exact congrArg (SV.ro true runT) hstep.symm
        | false =>
          have hw : wordR w = (atoiN (cutS w ⟨#[58]⟩).1, atoiN (cutS (cutS w ⟨#[58]⟩).2.1 ⟨#[45]⟩).1, atoiN (cutS (cutS w ⟨#[58]⟩).2.1 ⟨#[45]⟩).1) := by
            show (_, _, if (cutS (cutS w ⟨#[58]⟩).2.1 ⟨#[45]⟩).2.2 then atoiN (cutS (cutS w ⟨#[58]⟩).2.1 ⟨#[45]⟩).2.1 else atoiN (cutS (cutS w ⟨#[58]⟩).2.1 ⟨#[45]⟩).1) = _
            rw [hm]; rfl
          rw [hw] at hstep
          clear hw
          have lm := hm
          ((repeat' ((conv => whnf) <;> first | exact True.intro | (guard_target =~ Fork _ _ _; first | refine F1 ?_ | refine F2 ?_ | refine F3 (fun h => ?_) fun h => ?_) | (guard_target =~ Ar _ _ _; first | refine A1 ?_ | refine A2 ?_ | refine A3 ?_) | (guard_target =~ AskL _ _; first | refine L1 ?_) | (guard_target =~ Go.Eng.Ask _ _; first | refine K1 ?_) | (guard_target =~ All' _ _; first | (refine Y2 fun y he he' hy => ?_; (try dsimp only at he he' hy)) | (refine Y1 fun y he hy => ?_; (try with_reducible conv at he => (rhs; whnf)); (try dsimp only at he hy))) | refine F4 (fun h => ?_) fun h => ?_ | refine R1 ?_ | refine Q1 ?_ | fail)); all_goals (conv => whnf))
          refine All'.mk ?_; rintro (e' : ByteArray) he'
          obtain rfl : w = e' := Option.some.inj (hce.symm.trans he')
          clear he'
          ((repeat' ((conv => whnf) <;> first | exact True.intro | (guard_target =~ Fork _ _ _; first | refine F1 ?_ | refine F2 ?_ | refine F3 (fun h => ?_) fun h => ?_) | (guard_target =~ Ar _ _ _; first | refine A1 ?_ | refine A2 ?_ | refine A3 ?_) | (guard_target =~ AskL _ _; first | refine L1 ?_) | (guard_target =~ Go.Eng.Ask _ _; first | refine K1 ?_) | (guard_target =~ All' _ _; first | (refine Y2 fun y he he' hy => ?_; (try dsimp only at he he' hy)) | (refine Y1 fun y he hy => ?_; (try with_reducible conv at he => (rhs; whnf)); (try dsimp only at he hy)) | (refine All'.mk ?_; intro y hy)) | refine F4 (fun h => ?_) fun h => ?_ | refine R1 ?_ | refine Q1 ?_ | fail)); all_goals (conv => whnf))
          refine CallP.mk (C := cutC) (w, ⟨#[58]⟩) ?_
          ((repeat' ((conv => whnf) <;> first | exact True.intro | (guard_target =~ Fork _ _ _; first | refine F1 ?_ | refine F2 ?_ | refine F3 (fun h => ?_) fun h => ?_) | (guard_target =~ Ar _ _ _; first | refine A1 ?_ | refine A2 ?_ | refine A3 ?_) | (guard_target =~ AskL _ _; first | refine L1 ?_) | (guard_target =~ Go.Eng.Ask _ _; first | refine K1 ?_) | (guard_target =~ All' _ _; first | (refine Y2 fun y he he' hy => ?_; (try dsimp only at he he' hy)) | (refine Y1 fun y he hy => ?_; (try with_reducible conv at he => (rhs; whnf)); (try dsimp only at he hy)) | (refine All'.mk ?_; intro y hy)) | refine F4 (fun h => ?_) fun h => ?_ | refine R1 ?_ | refine Q1 ?_ | fail)); all_goals (conv => whnf))
          refine CallP.mk (C := cutC) ((cutS w ⟨#[58]⟩).2.1, ⟨#[45]⟩) ?_
          ((repeat' ((conv => whnf) <;> first | exact True.intro | (guard_target =~ Fork _ _ _; first | refine F1 ?_ | refine F2 ?_ | refine F3 (fun h => ?_) fun h => ?_) | (guard_target =~ Ar _ _ _; first | refine A1 ?_ | refine A2 ?_ | refine A3 ?_) | (guard_target =~ AskL _ _; first | refine L1 ?_) | (guard_target =~ Go.Eng.Ask _ _; first | refine K1 ?_) | (guard_target =~ All' _ _; first | (refine Y2 fun y he he' hy => ?_; (try dsimp only at he he' hy)) | (refine Y1 fun y he hy => ?_; (try with_reducible conv at he => (rhs; whnf)); (try dsimp only at he hy)) | (refine All'.mk ?_; intro y hy)) | refine F4 (fun h => ?_) fun h => ?_ | refine R1 ?_ | refine Q1 ?_ | fail)); all_goals (conv => whnf))
          refine CallP.mk (C := dnumC) (cutS w ⟨#[58]⟩).1 ?_
          ((repeat' ((conv => whnf) <;> first | exact True.intro | (guard_target =~ Fork _ _ _; first | refine F1 ?_ | refine F2 ?_ | refine F3 (fun h => ?_) fun h => ?_) | (guard_target =~ Ar _ _ _; first | refine A1 ?_ | refine A2 ?_ | refine A3 ?_) | (guard_target =~ AskL _ _; first | refine L1 ?_) | (guard_target =~ Go.Eng.Ask _ _; first | refine K1 ?_) | (guard_target =~ All' _ _; first | (refine Y2 fun y he he' hy => ?_; (try dsimp only at he he' hy)) | (refine Y1 fun y he hy => ?_; (try with_reducible conv at he => (rhs; whnf)); (try dsimp only at he hy)) | (refine All'.mk ?_; intro y hy)) | refine F4 (fun h => ?_) fun h => ?_ | refine R1 ?_ | refine Q1 ?_ | fail)); all_goals (conv => whnf))
          refine CallP.mk (C := dnumC) (cutS (cutS w ⟨#[58]⟩).2.1 ⟨#[45]⟩).1 ?_
          ((repeat' ((conv => whnf) <;> first | exact True.intro | (guard_target =~ Fork _ _ _; first | refine F1 ?_ | refine F2 ?_ | refine F3 (fun h => ?_) fun h => ?_) | (guard_target =~ Ar _ _ _; first | refine A1 ?_ | refine A2 ?_ | refine A3 ?_) | (guard_target =~ AskL _ _; first | refine L1 ?_) | (guard_target =~ Go.Eng.Ask _ _; first | refine K1 ?_) | (guard_target =~ All' _ _; first | (refine Y2 fun y he he' hy => ?_; (try dsimp only at he he' hy)) | (refine Y1 fun y he hy => ?_; (try with_reducible conv at he => (rhs; whnf)); (try dsimp only at he hy)) | (refine All'.mk ?_; intro y hy)) | refine F4 (fun h => ?_) fun h => ?_ | refine R1 ?_ | refine Q1 ?_ | fail)); all_goals (conv => whnf))
          refine CallP.mk (C := dnumC) (cutS (cutS w ⟨#[58]⟩).2.1 ⟨#[45]⟩).1 ?_
          ((repeat' ((conv => whnf) <;> first | exact True.intro | (guard_target =~ Fork _ _ _; first | refine F1 ?_ | refine F2 ?_ | refine F3 (fun h => ?_) fun h => ?_) | (guard_target =~ Ar _ _ _; first | refine A1 ?_ | refine A2 ?_ | refine A3 ?_) | (guard_target =~ AskL _ _; first | refine L1 ?_) | (guard_target =~ Go.Eng.Ask _ _; first | refine K1 ?_) | (guard_target =~ All' _ _; first | (refine Y2 fun y he he' hy => ?_; (try dsimp only at he he' hy)) | (refine Y1 fun y he hy => ?_; (try with_reducible conv at he => (rhs; whnf)); (try dsimp only at he hy)) | (refine All'.mk ?_; intro y hy)) | refine F4 (fun h => ?_) fun h => ?_ | refine R1 ?_ | refine Q1 ?_ | fail)); all_goals (conv => whnf))
          refine Ask.mk (hap _) ?_
          ((repeat' ((conv => whnf) <;> first | exact True.intro | (guard_target =~ Fork _ _ _; first | refine F1 ?_ | refine F2 ?_ | refine F3 (fun h => ?_) fun h => ?_) | (guard_target =~ Ar _ _ _; first | refine A1 ?_ | refine A2 ?_ | refine A3 ?_) | (guard_target =~ AskL _ _; first | refine L1 ?_) | (guard_target =~ Go.Eng.Ask _ _; first | refine K1 ?_) | (guard_target =~ All' _ _; first | (refine Y2 fun y he he' hy => ?_; (try dsimp only at he he' hy)) | (refine Y1 fun y he hy => ?_; (try with_reducible conv at he => (rhs; whnf)); (try dsimp only at he hy))) | refine F4 (fun h => ?_) fun h => ?_ | refine R1 ?_ | refine Q1 ?_ | fail)); all_goals (conv => whnf))
          refine Some'.mk (i + 1 : Nat) ?_
          ((repeat' ((conv => whnf) <;> first | exact True.intro | (guard_target =~ Fork _ _ _; first | refine F1 ?_ | refine F2 ?_ | refine F3 (fun h => ?_) fun h => ?_) | (guard_target =~ Ar _ _ _; first | refine A1 ?_ | refine A2 ?_ | refine A3 ?_) | (guard_target =~ Go.Eng.Ask _ _; first | refine K1 ?_) | (guard_target =~ All' _ _; first | (refine Y2 fun y he he' hy => ?_; (try dsimp only at he he' hy)) | (refine Y1 fun y he hy => ?_; (try with_reducible conv at he => (rhs; whnf)); (try dsimp only at he hy)) | (refine All'.mk ?_; intro y hy)) | refine F4 (fun h => ?_) fun h => ?_ | refine R1 ?_ | refine Q1 ?_ | fail)); all_goals (conv => whnf))
          refine AskL.mk ?_ (Ask.mk hpr (Ask.mk hmu trivial))
          (dsimp only [conj]; repeat' apply And.intro) <;> first | rfl | exact congrArg (SV.ro true runT) hstep.symm
end Go.Proofs.YtoaaieiiamdopaaGreatDoor
