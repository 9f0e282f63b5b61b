/- Parts of the proof, one behind the other (ActC, ActD, LibA, ActE, ActF, ActG, ActH). -/
import Derived.Test.YtghejeecanohoaaDoorPk5
import Derived.Test.YtghejeecanohoaaDoorChecked
import Derived.Shelf.Strconv.Itoa3
import Derived.Lib.ItoaMem
import Derived.WalkKit
import Derived.BigCall
import Derived.BigGuard
/-! Bytes as digits, and back. -/
set_option linter.unusedVariables false
set_option linter.unusedSimpArgs false
set_option maxRecDepth 100000
set_option maxHeartbeats 4000000
namespace Go.Proofs.YtghejeecanohoaaDoor
open Go.Eng

/-- A digit. -/
def digI (d : Int) : Int := if d < 10 then 48 + d else 87 + d
theorem digI_lt {d : Int} (h : d < 10) : digI d = 48 + d := if_pos h
theorem digI_ge {d : Int} (h : ¬ d < 10) : digI d = 87 + d := if_neg h
def hexL : List Int → List Int
  | [] => []
  | c :: l => digI (c / 16) :: digI (c % 16) :: hexL l
theorem hexL_app : ∀ (a b : List Int), hexL (a ++ b) = hexL a ++ hexL b
  | [], b => rfl
  | c :: a, b => by simp [hexL, hexL_app a b]
theorem hexL_len : ∀ a : List Int, (hexL a).length = 2 * a.length
  | [] => rfl
  | c :: a => by simp [hexL, hexL_len a]; omega
def hexS (l : List Int) : ByteArray := if l = [] then ⟨#[46]⟩ else strOfNums (hexL l)

theorem dig_at (d : Int) (h0 : 0 ≤ d) (h1 : d < 16) : byteAt ⟨#[48, 49, 50, 51, 52, 53, 54, 55, 56, 57, 97, 98, 99, 100, 101, 102]⟩ d.toNat = digI d := by
  obtain ⟨n, rfl⟩ := Int.eq_ofNat_of_zero_le h0
  have hn : n < 16 := by omega
  have key : ∀ m : Fin 16, byteAt ⟨#[48, 49, 50, 51, 52, 53, 54, 55, 56, 57, 97, 98, 99, 100, 101, 102]⟩ (((m : Nat) : Int).toNat) = digI ((m : Nat) : Int) := by decide
  exact key ⟨n, hn⟩
def band8 (a b : Int) : Int := IntKind.u8.wrap ((BitVec.ofInt IntKind.u8.bits a &&& BitVec.ofInt IntKind.u8.bits b).toNat : Nat)
theorem and15 (c : Int) (h0 : 0 ≤ c) (h1 : c < 256) : IntKind.u8.wrap ((BitVec.ofInt IntKind.u8.bits c &&& BitVec.ofInt IntKind.u8.bits 15).toNat : Nat) = c % 16 := by
  obtain ⟨n, rfl⟩ := Int.eq_ofNat_of_zero_le h0
  have hn : n < 256 := by omega
  have key : ∀ m : Fin 256, IntKind.u8.wrap ((BitVec.ofInt IntKind.u8.bits ((m : Nat) : Int) &&& BitVec.ofInt IntKind.u8.bits 15).toNat : Nat) = ((m : Nat) : Int) % 16 := by decide
  exact key ⟨n, hn⟩
theorem shr4 (c : Int) : c.fdiv (2 ^ min (4 : Int).toNat IntKind.u8.bits) = c / 16 := by
  have : min (4 : Int).toNat IntKind.u8.bits = 4 := rfl
  rw [this, Int.fdiv_eq_ediv_of_nonneg _ (by decide)]
  rfl

@[reducible] def hexesC : Ctr := {
  X := List Int
  Y := Unit
  args := fun x => [.ro true (.int .u8) x]
  rw := fun _ => []
  side := fun x => okB x ∧ x.length ≤ 100000000000
  val := fun _ => ()
  ens := fun _ _ => True
  res := fun x _ => .v (.string (hexS x))
  out := fun _ _ => [] }
@[reducible] def hexesL (x : List Int) : LA := {
  X := Nat
  pre := fun i => i ≤ x.length
  mu := fun i => x.length - i
  T := fun i => [(3, .sl 2), (9, .ro true (.int .u8) x), (10, .v (.int .i64 x.length)), (11, .v (.int .i64 (i : Nat)))]
  M := fun i => [(2, .row 5 (.int .u8) (hexL (x.take i)))] }
theorem hexes_ok : hexesC.ok Tryd.prog 35 := by
  refine ok_of_vc (An := fun (x : List Int) => anOf [(0, .loop (hexesL x))]) (known_nil _) mo Tryd.func35 (by kernel_rfl) (by kernel_rfl) (fun _ _ => trivial) (fun (x : List Int) hs => ?_)
  obtain ⟨hb, hl⟩ : okB x ∧ x.length ≤ 100000000000 := hs
  by_cases hx : x = []
  · subst hx
    ((repeat' ((conv => whnf) <;> first | exact True.intro | (guard_target =~ Fork _ _ _; first | refine F1 ?_ | refine F2 ?_ | refine F3 (fun h => ?_) fun h => ?_) | (guard_target =~ Ar _ _ _; first | refine A1 ?_ | refine A2 ?_ | refine A3 ?_) | (guard_target =~ AskL _ _; first | refine L1 ?_) | (guard_target =~ Go.Eng.Ask _ _; first | refine K1 ?_) | (guard_target =~ All' _ _; first | (refine Y2 fun y he he' hy => ?_; (try dsimp only at he he' hy)) | (refine Y1 fun y he hy => ?_; (try with_reducible conv at he => (rhs; whnf)); (try dsimp only at he hy)) | (refine All'.mk ?_; intro y hy)) | refine F4 (fun h => ?_) fun h => ?_ | refine R1 ?_ | refine Q1 ?_ | fail)); all_goals (conv => whnf))
    exact absurd rfl h
  · have hp : 0 < x.length := List.length_pos_iff.2 hx
    have hS : hexS x = strOfNums (hexL x) := if_neg hx
    ((repeat' ((conv => whnf) <;> first | exact True.intro | (guard_target =~ Fork _ _ _; first | refine F1 ?_ | refine F2 ?_ | refine F3 (fun h => ?_) fun h => ?_) | (guard_target =~ Ar _ _ _; first | refine A1 ?_ | refine A2 ?_ | refine A3 ?_) | (guard_target =~ AskL _ _; first | refine L1 ?_) | (guard_target =~ Go.Eng.Ask _ _; first | refine K1 ?_) | (guard_target =~ All' _ _; first | (refine Y2 fun y he he' hy => ?_; (try dsimp only at he he' hy)) | (refine Y1 fun y he hy => ?_; (try with_reducible conv at he => (rhs; whnf)); (try dsimp only at he hy)) | (refine All'.mk ?_; intro y hy)) | refine F4 (fun h => ?_) fun h => ?_ | refine R1 ?_ | refine Q1 ?_ | fail)); all_goals (conv => whnf))
    refine Some'.mk (0 : Nat) ?_
    ((repeat' ((conv => whnf) <;> first | exact True.intro | (guard_target =~ Fork _ _ _; first | refine F1 ?_ | refine F2 ?_ | refine F3 (fun h => ?_) fun h => ?_) | (guard_target =~ Ar _ _ _; first | refine A1 ?_ | refine A2 ?_ | refine A3 ?_) | (guard_target =~ AskL _ _; first | refine L1 ?_) | (guard_target =~ Go.Eng.Ask _ _; first | refine K1 ?_) | (guard_target =~ All' _ _; first | (refine Y2 fun y he he' hy => ?_; (try dsimp only at he he' hy)) | (refine Y1 fun y he hy => ?_; (try with_reducible conv at he => (rhs; whnf)); (try dsimp only at he hy)) | (refine All'.mk ?_; intro y hy)) | refine F4 (fun h => ?_) fun h => ?_ | refine R1 ?_ | refine Q1 ?_ | fail)); all_goals (conv => whnf))
    refine AllI.mk ?_
    rintro (i : Nat) hi
    dsimp only at hi
    have h2 := hexL_len (x.take i)
    have h3 : (x.take i).length ≤ x.length := by rw [List.length_take]; omega
    by_cases e : i = x.length
    · subst e
      rw [List.take_length] at h2
      have ht : x.take x.length = x := List.take_length
      exact G1
    · obtain ⟨c, hc⟩ : ∃ c, x[i]? = some c := ⟨_, List.getElem?_eq_getElem (by omega)⟩
      obtain ⟨c0, c1⟩ := hb c (List.mem_of_getElem? hc)
      ((repeat' ((conv => whnf) <;> first | exact True.intro | (guard_target =~ Fork _ _ _; first | refine F1 ?_ | refine F2 ?_ | refine F3 (fun h => ?_) fun h => ?_) | (guard_target =~ Ar _ _ _; first | refine A1 ?_ | refine A2 ?_ | refine A3 ?_) | (guard_target =~ AskL _ _; first | refine L1 ?_) | (guard_target =~ Go.Eng.Ask _ _; first | refine K1 ?_) | (guard_target =~ All' _ _; first | (refine Y2 fun y he he' hy => ?_; (try dsimp only at he he' hy)) | (refine Y1 fun y he hy => ?_; (try with_reducible conv at he => (rhs; whnf)); (try dsimp only at he hy))) | refine F4 (fun h => ?_) fun h => ?_ | refine R1 ?_ | refine Q1 ?_ | fail)); all_goals (conv => whnf))
      refine All'.mk ?_; rintro (c' : Int) hc'
      obtain rfl : c = c' := Option.some.inj (hc.symm.trans hc')
      have e1 := shr4 c
      have e2 := and15 c c0 c1
      have e3 := dig_at (c / 16) (by omega) (by omega)
      have e4 := dig_at (c % 16) (by omega) (by omega)
      ((repeat' ((conv => whnf) <;> first | exact True.intro | (guard_target =~ Fork _ _ _; first | refine F1 ?_ | refine F2 ?_ | refine F3 (fun h => ?_) fun h => ?_) | (guard_target =~ Ar _ _ _; first | refine A1 ?_ | refine A2 ?_ | refine A3 ?_) | (guard_target =~ AskL _ _; first | refine L1 ?_) | (guard_target =~ Go.Eng.Ask _ _; first | refine K1 ?_) | (guard_target =~ All' _ _; first | (refine Y2 fun y he he' hy => ?_; (try dsimp only at he he' hy)) | (refine Y1 fun y he hy => ?_; (try with_reducible conv at he => (rhs; whnf)); (try dsimp only at he hy)) | (refine All'.mk ?_; intro y hy)) | refine F4 (fun h => ?_) fun h => ?_ | refine R1 ?_ | refine Q1 ?_ | fail)); all_goals (conv => whnf))
      refine Ask.mk (by rw [e1]; exact ⟨by omega, by show c / 16 < 16; omega⟩) ?_
      ((repeat' ((conv => whnf) <;> first | exact True.intro | (guard_target =~ Fork _ _ _; first | refine F1 ?_ | refine F2 ?_ | refine F3 (fun h => ?_) fun h => ?_) | (guard_target =~ Ar _ _ _; first | refine A1 ?_ | refine A2 ?_ | refine A3 ?_) | (guard_target =~ AskL _ _; first | refine L1 ?_) | (guard_target =~ Go.Eng.Ask _ _; first | refine K1 ?_) | (guard_target =~ All' _ _; first | (refine Y2 fun y he he' hy => ?_; (try dsimp only at he he' hy)) | (refine Y1 fun y he hy => ?_; (try with_reducible conv at he => (rhs; whnf)); (try dsimp only at he hy)) | (refine All'.mk ?_; intro y hy)) | refine F4 (fun h => ?_) fun h => ?_ | refine R1 ?_ | refine Q1 ?_ | fail)); all_goals (conv => whnf))
      refine Ask.mk (by rw [e2]; exact ⟨by omega, by show c % 16 < 16; omega⟩) ?_
      ((repeat' ((conv => whnf) <;> first | exact True.intro | (guard_target =~ Fork _ _ _; first | refine F1 ?_ | refine F2 ?_ | refine F3 (fun h => ?_) fun h => ?_) | (guard_target =~ Ar _ _ _; first | refine A1 ?_ | refine A2 ?_ | refine A3 ?_) | (guard_target =~ AskL _ _; first | refine L1 ?_) | (guard_target =~ Go.Eng.Ask _ _; first | refine K1 ?_) | (guard_target =~ All' _ _; first | (refine Y2 fun y he he' hy => ?_; (try dsimp only at he he' hy)) | (refine Y1 fun y he hy => ?_; (try with_reducible conv at he => (rhs; whnf)); (try dsimp only at he hy)) | (refine All'.mk ?_; intro y hy)) | refine F4 (fun h => ?_) fun h => ?_ | refine R1 ?_ | refine Q1 ?_ | fail)); all_goals (conv => whnf))
      refine Some'.mk (i + 1) ?_
      ((repeat' ((conv => whnf) <;> first | exact True.intro | (guard_target =~ Fork _ _ _; first | refine F1 ?_ | refine F2 ?_ | refine F3 (fun h => ?_) fun h => ?_) | (guard_target =~ Ar _ _ _; first | refine A1 ?_ | refine A2 ?_ | refine A3 ?_) | (guard_target =~ AskL _ _; first | refine L1 ?_) | (guard_target =~ Go.Eng.Ask _ _; first | refine K1 ?_) | (guard_target =~ All' _ _; first | (refine Y2 fun y he he' hy => ?_; (try dsimp only at he he' hy)) | (refine Y1 fun y he hy => ?_; (try with_reducible conv at he => (rhs; whnf)); (try dsimp only at he hy)) | (refine All'.mk ?_; intro y hy)) | refine F4 (fun h => ?_) fun h => ?_ | refine R1 ?_ | refine Q1 ?_ | fail)); all_goals (conv => whnf))
      refine AskL.mk ?_ ?_
      · simp only [conj]
        have hc : (x : List Int)[i]? = some c := hc
        rw [take_get hc, hexL_app, e1, e2, e3, e4]
        (repeat' apply And.intro) <;> first | rfl | trivial | omega
      exact G1

@[reducible] def rHexC : Ctr := {
  X := ByteArray
  Y := Unit
  args := fun x => [.v (.string x)]
  rw := fun _ => []
  side := fun x => x.size ≤ 100000000000
  val := fun _ => ()
  ens := fun _ _ => True
  res := fun x _ => .v (.string (strOfNums (hexL (bytesL x))))
  out := fun _ _ => [] }
@[reducible] def rHexL (x : ByteArray) : LA := {
  X := Nat
  pre := fun i => i ≤ x.size
  mu := fun i => x.size - i
  T := fun i => [(0, .v (.string x)), (3, .v (.string (strOfNums (hexL ((bytesL x).take i))))), (4, .v (.int .i64 (i : Nat)))]
  M := fun i => [] }
def part2 (c : Int) (j : Nat) : List Int := ([digI (c / 16), digI (c % 16)] : List Int).take j
@[reducible] def rHexL2 (x : ByteArray) (i : Nat) : LA := {
  X := Nat
  pre := fun j => j ≤ 2
  mu := fun j => 2 - j
  T := fun j => [(0, .v (.string x)), (3, .v (.string (strOfNums (hexL ((bytesL x).take i) ++ part2 (byteAt x i) j)))), (4, .v (.int .i64 (i : Nat))), (21, .ro false (.int .u8) [byteAt x i / 16, byteAt x i % 16]), (22, .v (.int .i64 2)), (23, .v (.int .i64 (j : Nat)))]
  M := fun j => [] }
theorem rHex_ok : rHexC.ok Tryd.prog 24 := by
  refine ok_of_vc (An := fun (x : ByteArray) => anOfM fun ms => [(0, .loop (rHexL x)), (2, .loop (rHexL2 x (x.size - ms.headD 0)))]) (known_nil _) mo Tryd.func24 (by kernel_rfl) (by kernel_rfl) (fun _ _ => trivial) (fun (x : ByteArray) hs => ?_)
  have hs : x.size ≤ 100000000000 := hs
  ((repeat' ((conv => whnf) <;> first | exact True.intro | (guard_target =~ Fork _ _ _; first | refine F1 ?_ | refine F2 ?_ | refine F3 (fun h => ?_) fun h => ?_) | (guard_target =~ Ar _ _ _; first | refine A1 ?_ | refine A2 ?_ | refine A3 ?_) | (guard_target =~ AskL _ _; first | refine L1 ?_) | (guard_target =~ Go.Eng.Ask _ _; first | refine K1 ?_) | (guard_target =~ All' _ _; first | (refine Y2 fun y he he' hy => ?_; (try dsimp only at he he' hy)) | (refine Y1 fun y he hy => ?_; (try with_reducible conv at he => (rhs; whnf)); (try dsimp only at he hy)) | (refine All'.mk ?_; intro y hy)) | refine F4 (fun h => ?_) fun h => ?_ | refine R1 ?_ | refine Q1 ?_ | fail)); all_goals (conv => whnf))
  refine Some'.mk (0 : Nat) ?_
  ((repeat' ((conv => whnf) <;> first | exact True.intro | (guard_target =~ Fork _ _ _; first | refine F1 ?_ | refine F2 ?_ | refine F3 (fun h => ?_) fun h => ?_) | (guard_target =~ Ar _ _ _; first | refine A1 ?_ | refine A2 ?_ | refine A3 ?_) | (guard_target =~ AskL _ _; first | refine L1 ?_) | (guard_target =~ Go.Eng.Ask _ _; first | refine K1 ?_) | (guard_target =~ All' _ _; first | (refine Y2 fun y he he' hy => ?_; (try dsimp only at he he' hy)) | (refine Y1 fun y he hy => ?_; (try with_reducible conv at he => (rhs; whnf)); (try dsimp only at he hy)) | (refine All'.mk ?_; intro y hy)) | refine F4 (fun h => ?_) fun h => ?_ | refine R1 ?_ | refine Q1 ?_ | fail)); all_goals (conv => whnf))
  refine AllI.mk ?_
  rintro (i : Nat) hi
  have hi : i ≤ x.size := hi
  have hbl := bytesL_length x
  have h2 := hexL_len ((bytesL x).take i)
  rw [List.length_take, hbl] at h2
  by_cases e : i = x.size
  · subst e
    have ht : (bytesL x).take x.size = bytesL x := by rw [← hbl]; exact List.take_length
    exact G1
  · obtain ⟨c0, c1⟩ := byteAt_rng x i
    have hc := byteAt_some (s := x) (i := i) (by omega)
    have hms : x.size - (x.size - i) = i := by omega
    have hd : (byteAt x i).tdiv 16 = byteAt x i / 16 := Int.tdiv_eq_ediv_of_nonneg c0
    have hm : (byteAt x i).tmod 16 = byteAt x i % 16 := Int.tmod_eq_emod_of_nonneg c0
    ((repeat' ((conv => whnf) <;> first | exact True.intro | (guard_target =~ Fork _ _ _; first | refine F1 ?_ | refine F2 ?_ | refine F3 (fun h => ?_) fun h => ?_) | (guard_target =~ Ar _ _ _; first | refine A1 ?_ | refine A2 ?_ | refine A3 ?_) | (guard_target =~ AskL _ _; first | refine L1 ?_) | (guard_target =~ Go.Eng.Ask _ _; first | refine K1 ?_) | (guard_target =~ All' _ _; first | (refine Y2 fun y he he' hy => ?_; (try dsimp only at he he' hy)) | (refine Y1 fun y he hy => ?_; (try with_reducible conv at he => (rhs; whnf)); (try dsimp only at he hy)) | (refine All'.mk ?_; intro y hy)) | refine F4 (fun h => ?_) fun h => ?_ | refine R1 ?_ | refine Q1 ?_ | fail)); all_goals (conv => whnf))
    refine Ar.fit (wrap_u8 (by show 0 ≤ (byteAt x i).tdiv 16; omega) (by show (byteAt x i).tdiv 16 ≤ 255; omega)) ?_
    ((repeat' ((conv => whnf) <;> first | exact True.intro | (guard_target =~ Fork _ _ _; first | refine F1 ?_ | refine F2 ?_ | refine F3 (fun h => ?_) fun h => ?_) | (guard_target =~ Ar _ _ _; first | refine A1 ?_ | refine A2 ?_ | refine A3 ?_) | (guard_target =~ AskL _ _; first | refine L1 ?_) | (guard_target =~ Go.Eng.Ask _ _; first | refine K1 ?_) | (guard_target =~ All' _ _; first | (refine Y2 fun y he he' hy => ?_; (try dsimp only at he he' hy)) | (refine Y1 fun y he hy => ?_; (try with_reducible conv at he => (rhs; whnf)); (try dsimp only at he hy)) | (refine All'.mk ?_; intro y hy)) | refine F4 (fun h => ?_) fun h => ?_ | refine R1 ?_ | refine Q1 ?_ | fail)); all_goals (conv => whnf))
    rw [show x.size - [(rHexL x).mu i].headD 0 = i from hms]
    refine Some'.mk (0 : Nat) ?_
    have lm := And.intro hd hm
    ((repeat' ((conv => whnf) <;> first | exact True.intro | (guard_target =~ Fork _ _ _; first | refine F1 ?_ | refine F2 ?_ | refine F3 (fun h => ?_) fun h => ?_) | (guard_target =~ Ar _ _ _; first | refine A1 ?_ | refine A2 ?_ | refine A3 ?_) | (guard_target =~ AskL _ _; first | refine L1 ?_) | (guard_target =~ Go.Eng.Ask _ _; first | refine K1 ?_) | (guard_target =~ All' _ _; first | (refine Y2 fun y he he' hy => ?_; (try dsimp only at he he' hy)) | (refine Y1 fun y he hy => ?_; (try with_reducible conv at he => (rhs; whnf)); (try dsimp only at he hy)) | (refine All'.mk ?_; intro y hy)) | refine F4 (fun h => ?_) fun h => ?_ | refine R1 ?_ | refine Q1 ?_ | fail)); all_goals (conv => whnf))
    have hz : part2 (byteAt x i) 0 = [] := rfl
    refine AskL.mk ?_ ?_
    · simp only [conj, hz, List.append_nil]
      (repeat' apply And.intro) <;> first | rfl | trivial | assumption
    ((repeat' ((conv => whnf) <;> first | exact True.intro | (guard_target =~ Fork _ _ _; first | refine F1 ?_ | refine F2 ?_ | refine F3 (fun h => ?_) fun h => ?_) | (guard_target =~ Ar _ _ _; first | refine A1 ?_ | refine A2 ?_ | refine A3 ?_) | (guard_target =~ AskL _ _; first | refine L1 ?_) | (guard_target =~ Go.Eng.Ask _ _; first | refine K1 ?_) | (guard_target =~ All' _ _; first | (refine Y2 fun y he he' hy => ?_; (try dsimp only at he he' hy)) | (refine Y1 fun y he hy => ?_; (try with_reducible conv at he => (rhs; whnf)); (try dsimp only at he hy)) | (refine All'.mk ?_; intro y hy)) | refine F4 (fun h => ?_) fun h => ?_ | refine R1 ?_ | refine Q1 ?_ | fail)); all_goals (conv => whnf))
    refine AllI.mk ?_
    rintro (j : Nat) hj
    have hj : j ≤ 2 := hj
    have hj : j = 0 ∨ j = 1 ∨ j = 2 := by omega
    rcases hj with rfl | rfl | rfl
    · have hg1 := digI_lt (d := byteAt x i / 16)
      have hg2 := digI_ge (d := byteAt x i / 16)
      ((repeat' ((conv => whnf) <;> first | exact True.intro | (guard_target =~ Fork _ _ _; first | refine F1 ?_ | refine F2 ?_ | refine F3 (fun h => ?_) fun h => ?_) | (guard_target =~ Ar _ _ _; first | refine A1 ?_ | refine A2 ?_ | refine A3 ?_) | (guard_target =~ AskL _ _; first | refine L1 ?_) | (guard_target =~ Go.Eng.Ask _ _; first | refine K1 ?_) | (guard_target =~ All' _ _; first | (refine Y2 fun y he he' hy => ?_; (try dsimp only at he he' hy)) | (refine Y1 fun y he hy => ?_; (try with_reducible conv at he => (rhs; whnf)); (try dsimp only at he hy))) | refine F4 (fun h => ?_) fun h => ?_ | refine R1 ?_ | refine Q1 ?_ | fail)); all_goals (conv => whnf))
      refine All'.mk ?_; rintro (y : Int) hy
      have e : y = byteAt x i / 16 := (Option.some.inj hy).symm
      subst e
      ((repeat' ((conv => whnf) <;> first | exact True.intro | (guard_target =~ Fork _ _ _; first | refine F1 ?_ | refine F2 ?_ | refine F3 (fun h => ?_) fun h => ?_) | (guard_target =~ Ar _ _ _; first | refine A1 ?_ | refine A2 ?_ | refine A3 ?_) | (guard_target =~ AskL _ _; first | refine L1 ?_) | (guard_target =~ Go.Eng.Ask _ _; first | refine K1 ?_) | (guard_target =~ All' _ _; first | (refine Y2 fun y he he' hy => ?_; (try dsimp only at he he' hy)) | (refine Y1 fun y he hy => ?_; (try with_reducible conv at he => (rhs; whnf)); (try dsimp only at he hy)) | (refine All'.mk ?_; intro y hy)) | refine F4 (fun h => ?_) fun h => ?_ | refine R1 ?_ | refine Q1 ?_ | fail)); all_goals (conv => whnf))
      all_goals
        refine Ask.mk (by simp only [str_size, List.length_append, h2]; simp [part2]; omega) ?_
        ((repeat' ((conv => whnf) <;> first | exact True.intro | (guard_target =~ Fork _ _ _; first | refine F1 ?_ | refine F2 ?_ | refine F3 (fun h => ?_) fun h => ?_) | (guard_target =~ Ar _ _ _; first | refine A1 ?_ | refine A2 ?_ | refine A3 ?_) | (guard_target =~ AskL _ _; first | refine L1 ?_) | (guard_target =~ Go.Eng.Ask _ _; first | refine K1 ?_) | (guard_target =~ All' _ _; first | (refine Y2 fun y he he' hy => ?_; (try dsimp only at he he' hy)) | (refine Y1 fun y he hy => ?_; (try with_reducible conv at he => (rhs; whnf)); (try dsimp only at he hy)) | (refine All'.mk ?_; intro y hy)) | refine F4 (fun h => ?_) fun h => ?_ | refine R1 ?_ | refine Q1 ?_ | fail)); all_goals (conv => whnf))
        refine Some'.mk (1 : Nat) ?_
        ((repeat' ((conv => whnf) <;> first | exact True.intro | (guard_target =~ Fork _ _ _; first | refine F1 ?_ | refine F2 ?_ | refine F3 (fun h => ?_) fun h => ?_) | (guard_target =~ Ar _ _ _; first | refine A1 ?_ | refine A2 ?_ | refine A3 ?_) | (guard_target =~ Go.Eng.Ask _ _; first | refine K1 ?_) | (guard_target =~ All' _ _; first | (refine Y2 fun y he he' hy => ?_; (try dsimp only at he he' hy)) | (refine Y1 fun y he hy => ?_; (try with_reducible conv at he => (rhs; whnf)); (try dsimp only at he hy)) | (refine All'.mk ?_; intro y hy)) | refine F4 (fun h => ?_) fun h => ?_ | refine R1 ?_ | refine Q1 ?_ | fail)); all_goals (conv => whnf))
        refine AskL.mk ?_ ?_
        · simp only [conj, str_cat, List.append_assoc]
          simp only [part2]
          first | rw [digI_lt h] | rw [digI_ge h]
          (repeat' apply And.intro) <;> first | rfl | trivial
        ((repeat' ((conv => whnf) <;> first | exact True.intro | (guard_target =~ Fork _ _ _; first | refine F1 ?_ | refine F2 ?_ | refine F3 (fun h => ?_) fun h => ?_) | (guard_target =~ Ar _ _ _; first | refine A1 ?_ | refine A2 ?_ | refine A3 ?_) | (guard_target =~ AskL _ _; first | refine L1 ?_) | (guard_target =~ Go.Eng.Ask _ _; first | refine K1 ?_) | (guard_target =~ All' _ _; first | (refine Y2 fun y he he' hy => ?_; (try dsimp only at he he' hy)) | (refine Y1 fun y he hy => ?_; (try with_reducible conv at he => (rhs; whnf)); (try dsimp only at he hy)) | (refine All'.mk ?_; intro y hy)) | refine F4 (fun h => ?_) fun h => ?_ | refine R1 ?_ | refine Q1 ?_ | fail)); all_goals (conv => whnf))
    · have hg1 := digI_lt (d := byteAt x i % 16)
      have hg2 := digI_ge (d := byteAt x i % 16)
      ((repeat' ((conv => whnf) <;> first | exact True.intro | (guard_target =~ Fork _ _ _; first | refine F1 ?_ | refine F2 ?_ | refine F3 (fun h => ?_) fun h => ?_) | (guard_target =~ Ar _ _ _; first | refine A1 ?_ | refine A2 ?_ | refine A3 ?_) | (guard_target =~ AskL _ _; first | refine L1 ?_) | (guard_target =~ Go.Eng.Ask _ _; first | refine K1 ?_) | (guard_target =~ All' _ _; first | (refine Y2 fun y he he' hy => ?_; (try dsimp only at he he' hy)) | (refine Y1 fun y he hy => ?_; (try with_reducible conv at he => (rhs; whnf)); (try dsimp only at he hy))) | refine F4 (fun h => ?_) fun h => ?_ | refine R1 ?_ | refine Q1 ?_ | fail)); all_goals (conv => whnf))
      refine All'.mk ?_; rintro (y : Int) hy
      have e : y = byteAt x i % 16 := (Option.some.inj hy).symm
      subst e
      ((repeat' ((conv => whnf) <;> first | exact True.intro | (guard_target =~ Fork _ _ _; first | refine F1 ?_ | refine F2 ?_ | refine F3 (fun h => ?_) fun h => ?_) | (guard_target =~ Ar _ _ _; first | refine A1 ?_ | refine A2 ?_ | refine A3 ?_) | (guard_target =~ AskL _ _; first | refine L1 ?_) | (guard_target =~ Go.Eng.Ask _ _; first | refine K1 ?_) | (guard_target =~ All' _ _; first | (refine Y2 fun y he he' hy => ?_; (try dsimp only at he he' hy)) | (refine Y1 fun y he hy => ?_; (try with_reducible conv at he => (rhs; whnf)); (try dsimp only at he hy)) | (refine All'.mk ?_; intro y hy)) | refine F4 (fun h => ?_) fun h => ?_ | refine R1 ?_ | refine Q1 ?_ | fail)); all_goals (conv => whnf))
      all_goals
        refine Ask.mk (by simp only [str_size, List.length_append, h2]; simp [part2]; omega) ?_
        ((repeat' ((conv => whnf) <;> first | exact True.intro | (guard_target =~ Fork _ _ _; first | refine F1 ?_ | refine F2 ?_ | refine F3 (fun h => ?_) fun h => ?_) | (guard_target =~ Ar _ _ _; first | refine A1 ?_ | refine A2 ?_ | refine A3 ?_) | (guard_target =~ AskL _ _; first | refine L1 ?_) | (guard_target =~ Go.Eng.Ask _ _; first | refine K1 ?_) | (guard_target =~ All' _ _; first | (refine Y2 fun y he he' hy => ?_; (try dsimp only at he he' hy)) | (refine Y1 fun y he hy => ?_; (try with_reducible conv at he => (rhs; whnf)); (try dsimp only at he hy)) | (refine All'.mk ?_; intro y hy)) | refine F4 (fun h => ?_) fun h => ?_ | refine R1 ?_ | refine Q1 ?_ | fail)); all_goals (conv => whnf))
        refine Some'.mk (2 : Nat) ?_
        ((repeat' ((conv => whnf) <;> first | exact True.intro | (guard_target =~ Fork _ _ _; first | refine F1 ?_ | refine F2 ?_ | refine F3 (fun h => ?_) fun h => ?_) | (guard_target =~ Ar _ _ _; first | refine A1 ?_ | refine A2 ?_ | refine A3 ?_) | (guard_target =~ Go.Eng.Ask _ _; first | refine K1 ?_) | (guard_target =~ All' _ _; first | (refine Y2 fun y he he' hy => ?_; (try dsimp only at he he' hy)) | (refine Y1 fun y he hy => ?_; (try with_reducible conv at he => (rhs; whnf)); (try dsimp only at he hy)) | (refine All'.mk ?_; intro y hy)) | refine F4 (fun h => ?_) fun h => ?_ | refine R1 ?_ | refine Q1 ?_ | fail)); all_goals (conv => whnf))
        refine AskL.mk ?_ ?_
        · simp only [conj, str_cat, List.append_assoc]
          simp only [part2]
          first | rw [digI_lt h] | rw [digI_ge h]
          (repeat' apply And.intro) <;> first | rfl | trivial
        ((repeat' ((conv => whnf) <;> first | exact True.intro | (guard_target =~ Fork _ _ _; first | refine F1 ?_ | refine F2 ?_ | refine F3 (fun h => ?_) fun h => ?_) | (guard_target =~ Ar _ _ _; first | refine A1 ?_ | refine A2 ?_ | refine A3 ?_) | (guard_target =~ AskL _ _; first | refine L1 ?_) | (guard_target =~ Go.Eng.Ask _ _; first | refine K1 ?_) | (guard_target =~ All' _ _; first | (refine Y2 fun y he he' hy => ?_; (try dsimp only at he he' hy)) | (refine Y1 fun y he hy => ?_; (try with_reducible conv at he => (rhs; whnf)); (try dsimp only at he hy)) | (refine All'.mk ?_; intro y hy)) | refine F4 (fun h => ?_) fun h => ?_ | refine R1 ?_ | refine Q1 ?_ | fail)); all_goals (conv => whnf))
    · have ht := take_get hc
      have hp : part2 (byteAt x i) 2 = hexL [byteAt x i] := rfl
      ((repeat' ((conv => whnf) <;> first | exact True.intro | (guard_target =~ Fork _ _ _; first | refine F1 ?_ | refine F2 ?_ | refine F3 (fun h => ?_) fun h => ?_) | (guard_target =~ Ar _ _ _; first | refine A1 ?_ | refine A2 ?_ | refine A3 ?_) | (guard_target =~ AskL _ _; first | refine L1 ?_) | (guard_target =~ Go.Eng.Ask _ _; first | refine K1 ?_) | (guard_target =~ All' _ _; first | (refine Y2 fun y he he' hy => ?_; (try dsimp only at he he' hy)) | (refine Y1 fun y he hy => ?_; (try with_reducible conv at he => (rhs; whnf)); (try dsimp only at he hy)) | (refine All'.mk ?_; intro y hy)) | refine F4 (fun h => ?_) fun h => ?_ | refine R1 ?_ | refine Q1 ?_ | fail)); all_goals (conv => whnf))
      refine Some'.mk (i + 1) ?_
      ((repeat' ((conv => whnf) <;> first | exact True.intro | (guard_target =~ Fork _ _ _; first | refine F1 ?_ | refine F2 ?_ | refine F3 (fun h => ?_) fun h => ?_) | (guard_target =~ Ar _ _ _; first | refine A1 ?_ | refine A2 ?_ | refine A3 ?_) | (guard_target =~ Go.Eng.Ask _ _; first | refine K1 ?_) | (guard_target =~ All' _ _; first | (refine Y2 fun y he he' hy => ?_; (try dsimp only at he he' hy)) | (refine Y1 fun y he hy => ?_; (try with_reducible conv at he => (rhs; whnf)); (try dsimp only at he hy)) | (refine All'.mk ?_; intro y hy)) | refine F4 (fun h => ?_) fun h => ?_ | refine R1 ?_ | refine Q1 ?_ | fail)); all_goals (conv => whnf))
      refine AskL.mk ?_ ?_
      · simp only [conj, hp]
        rw [ht, hexL_app]
        (repeat' apply And.intro) <;> first | rfl | trivial
      exact G1
end Go.Proofs.YtghejeecanohoaaDoor

/-! Digits as bytes. -/
set_option linter.unusedVariables false
set_option linter.unusedSimpArgs false
set_option maxRecDepth 100000
set_option maxHeartbeats 4000000
namespace Go.Proofs.YtghejeecanohoaaDoor
open Go.Eng

theorem knownA3 : Known Tryd.prog (gOf [(24, rHexC)]) := known_cons ⟨rHex_ok, Tryd.call24⟩ (known_nil _)
@[reducible] def rhexC : Ctr := {
  X := ByteArray
  Y := Unit
  args := fun x => [.v (.string x)]
  rw := fun _ => []
  side := fun x => x.size ≤ 100000000000
  val := fun _ => ()
  ens := fun _ _ => True
  res := fun x _ => .v (.string (hexS (bytesL x)))
  out := fun _ _ => [] }
theorem bytes_nil {x : ByteArray} : bytesL x = [] ↔ x = ⟨#[]⟩ := ⟨fun h => bytes_inj h, fun h => by rw [h]; rfl⟩
theorem rhex_ok : rhexC.ok Tryd.prog 23 := by
  refine ok_of_vc (An := fun _ => anOf []) knownA3 mo Tryd.func23 (by kernel_rfl) (by kernel_rfl) (fun _ _ => trivial) (fun (x : ByteArray) hs => ?_)
  have hs : x.size ≤ 100000000000 := hs
  by_cases hx : x = ⟨#[]⟩
  · subst hx
    have e : hexS (bytesL ⟨#[]⟩) = ⟨#[46]⟩ := rfl
    exact G1
  · have e : hexS (bytesL x) = strOfNums (hexL (bytesL x)) := if_neg (fun h => hx (bytes_nil.1 h))
    ((repeat' ((conv => whnf) <;> first | exact True.intro | (guard_target =~ Fork _ _ _; first | refine F1 ?_ | refine F2 ?_ | refine F3 (fun h => ?_) fun h => ?_) | (guard_target =~ Ar _ _ _; first | refine A1 ?_ | refine A2 ?_ | refine A3 ?_) | (guard_target =~ AskL _ _; first | refine L1 ?_) | (guard_target =~ Go.Eng.Ask _ _; first | refine K1 ?_) | (guard_target =~ All' _ _; first | (refine Y2 fun y he he' hy => ?_; (try dsimp only at he he' hy)) | (refine Y1 fun y he hy => ?_; (try with_reducible conv at he => (rhs; whnf)); (try dsimp only at he hy)) | (refine All'.mk ?_; intro y hy)) | refine F4 (fun h => ?_) fun h => ?_ | refine R1 ?_ | refine Q1 ?_ | fail)); all_goals (conv => whnf))
    · exact absurd (str_eq.1 h) hx
    · refine CallP.mk (C := rHexC) x ?_
      exact G1

/-! ### Back -/
def isH (c : Int) : Bool := decide (48 ≤ c ∧ c ≤ 57) || decide (97 ≤ c ∧ c ≤ 102)
/-- What a digit counts; 15: it is none. -/
def uI (c : Int) : Int := if 48 ≤ c ∧ c ≤ 57 then c - 48 else if 97 ≤ c ∧ c ≤ 102 then c - 87 else 15
theorem uI_rng (c : Int) : 0 ≤ uI c ∧ uI c < 16 := by
  unfold uI
  split
  · omega
  · split <;> omega
def unhexL : List Int → List Int
  | a :: b :: l => (uI a * 16 + uI b) :: unhexL l
  | _ => []
theorem unhexL_snoc : ∀ (k : Nat) (l : List Int) (a b : Int), l.length = 2 * k → unhexL (l ++ [a, b]) = unhexL l ++ [uI a * 16 + uI b]
  | 0, [], a, b, _ => rfl
  | k + 1, x :: y :: l, a, b, h => by
    have := unhexL_snoc k l a b (by simp at h; omega)
    simp only [List.cons_append, unhexL, this]
  | 0, _ :: _, _, _, h => by simp at h
  | k + 1, [], _, _, h => by simp at h
  | k + 1, [_], _, _, h => by simp at h; omega
theorem unhexL_odd : ∀ (k : Nat) (l r : List Int), l.length = 2 * k → r.length ≤ 1 → unhexL (l ++ r) = unhexL l
  | 0, [], [], _, _ => rfl
  | 0, [], [_], _, _ => rfl
  | k + 1, x :: y :: l, r, h, hr => by
    have := unhexL_odd k l r (by simp at h; omega) hr
    simp only [List.cons_append, unhexL, this]
  | 0, [], _ :: _ :: _, _, h => by simp at h
  | 0, _ :: _, _, h, _ => by simp at h
  | k + 1, [], _, h, _ => by simp at h
  | k + 1, [_], _, h, _ => by simp at h; omega
theorem unhexL_len : ∀ (k : Nat) (l : List Int), l.length ≤ 2 * k → (unhexL l).length ≤ k
  | _, [], _ => Nat.zero_le _
  | _, [_], _ => Nat.zero_le _
  | k + 1, _ :: _ :: l, h => by
    have := unhexL_len k l (by simp at h; omega)
    simp only [unhexL, List.length_cons]; omega
  | 0, _ :: _ :: _, h => by simp at h
theorem unhexL_ok : ∀ (l : List Int), okB (unhexL l)
  | [] => fun c hc => by cases hc
  | [_] => fun c hc => by cases hc
  | a :: b :: l => by
    have := uI_rng a
    have := uI_rng b
    exact okB_cons (by omega) (unhexL_ok l)

def digS : ByteArray := ⟨#[48, 49, 50, 51, 52, 53, 54, 55, 56, 57, 97, 98, 99, 100, 101, 102]⟩
theorem u8_back (c : Int) (h0 : 0 ≤ c) (h1 : c < 256) : (((c.toNat.toUInt8).toNat : Nat) : Int) = c := by
  have : (c.toNat.toUInt8).toNat = c.toNat % 256 := UInt8.toNat_ofNat'
  rw [this]; omega
/-- What two bytes make. -/
def mkI (c d : Int) : Int := IntKind.u8.wrap (IntKind.i64.wrap ((BitVec.ofInt IntKind.i64.bits (Lib.indexByte digS.data.toList c.toNat.toUInt8 * 2 ^ min (4 : Int).toNat IntKind.i64.bits) |||
  BitVec.ofInt IntKind.i64.bits (IntKind.i64.wrap ((BitVec.ofInt IntKind.i64.bits (Lib.indexByte digS.data.toList d.toNat.toUInt8) &&& BitVec.ofInt IntKind.i64.bits 15).toNat : Nat))).toNat : Nat))
def mk2 (u v : Int) : Int := IntKind.u8.wrap (IntKind.i64.wrap ((BitVec.ofInt IntKind.i64.bits (u * 2 ^ min (4 : Int).toNat IntKind.i64.bits) |||
  BitVec.ofInt IntKind.i64.bits (IntKind.i64.wrap ((BitVec.ofInt IntKind.i64.bits v &&& BitVec.ofInt IntKind.i64.bits 15).toNat : Nat))).toNat : Nat))
theorem ixb (c : Int) (h0 : 0 ≤ c) (h1 : c < 256) : Lib.indexByte digS.data.toList c.toNat.toUInt8 = (if isH c then uI c else -1) := by
  obtain ⟨n, rfl⟩ := Int.eq_ofNat_of_zero_le h0
  have hn : n < 256 := by omega
  have key : ∀ m : Fin 256, Lib.indexByte digS.data.toList (((m : Nat) : Int).toNat.toUInt8) = (if isH ((m : Nat) : Int) then uI ((m : Nat) : Int) else -1) := by decide
  exact key ⟨n, hn⟩
theorem mk2_eq (u v : Fin 17) : mk2 ((u : Nat) - 1 : Int) ((v : Nat) - 1 : Int) = (if (u : Nat) = 0 then 15 else ((u : Nat) - 1 : Int)) * 16 + (if (v : Nat) = 0 then 15 else ((v : Nat) - 1 : Int)) := by
  revert u v
  decide
theorem mkI_eq (c d : Int) (h0 : 0 ≤ c) (h1 : c < 256) (g0 : 0 ≤ d) (g1 : d < 256) : mkI c d = uI c * 16 + uI d := by
  have e : mkI c d = mk2 (if isH c then uI c else -1) (if isH d then uI d else -1) := by rw [← ixb c h0 h1, ← ixb d g0 g1]; rfl
  have hc := uI_rng c
  have hd := uI_rng d
  have key := mk2_eq ⟨((if isH c then uI c else -1) + 1).toNat, by split <;> omega⟩ ⟨((if isH d then uI d else -1) + 1).toNat, by split <;> omega⟩
  have nc : ∀ x : Int, isH x = false → uI x = 15 := fun x hx => by
    simp only [isH, Bool.or_eq_false_iff, decide_eq_false_iff_not] at hx
    unfold uI; rw [if_neg hx.1, if_neg hx.2]
  have ec : ((((if isH c then uI c else -1) + 1).toNat : Int) - 1) = (if isH c then uI c else -1) := by split <;> omega
  have ed : ((((if isH d then uI d else -1) + 1).toNat : Int) - 1) = (if isH d then uI d else -1) := by split <;> omega
  dsimp only at key
  rw [ec, ed] at key
  rw [e, key]
  cases h1 : isH c <;> cases h2 : isH d <;> simp [nc c, nc d, h1, h2] <;> omega

theorem knownA4 : Known Tryd.prog (gOf [(46, indexByteC)]) := known_cons ⟨indexByte_ok, Tryd.call46⟩ (known_nil _)
@[reducible] def unhexedC : Ctr := {
  X := ByteArray
  Y := Unit
  args := fun x => [.v (.string x)]
  rw := fun _ => []
  side := fun x => x.size ≤ 100000000000
  val := fun _ => ()
  ens := fun _ _ => True
  res := fun x _ => .ro false (.int .u8) (unhexL (bytesL x))
  out := fun _ _ => [] }
@[reducible] def unhexedL (x : ByteArray) : LA := {
  X := Nat
  pre := fun i => 2 * i ≤ x.size
  mu := fun i => x.size - 2 * i
  T := fun i => [(0, .v (.string x)), (3, .sl 2), (4, .v (.int .i64 (2 * i : Nat)))]
  M := fun i => [(2, .row 5 (.int .u8) (unhexL ((bytesL x).take (2 * i))))] }
theorem unhexed_ok : unhexedC.ok Tryd.prog 28 := by
  refine ok_of_vc (An := fun (x : ByteArray) => anOf [(0, .loop (unhexedL x))]) knownA4 mo Tryd.func28 (by kernel_rfl) (by kernel_rfl) (fun _ _ => trivial) (fun (x : ByteArray) hs => ?_)
  have hs : x.size ≤ 100000000000 := hs
  ((repeat' ((conv => whnf) <;> first | exact True.intro | (guard_target =~ Fork _ _ _; first | refine F1 ?_ | refine F2 ?_ | refine F3 (fun h => ?_) fun h => ?_) | (guard_target =~ Ar _ _ _; first | refine A1 ?_ | refine A2 ?_ | refine A3 ?_) | (guard_target =~ AskL _ _; first | refine L1 ?_) | (guard_target =~ Go.Eng.Ask _ _; first | refine K1 ?_) | (guard_target =~ All' _ _; first | (refine Y2 fun y he he' hy => ?_; (try dsimp only at he he' hy)) | (refine Y1 fun y he hy => ?_; (try with_reducible conv at he => (rhs; whnf)); (try dsimp only at he hy)) | (refine All'.mk ?_; intro y hy)) | refine F4 (fun h => ?_) fun h => ?_ | refine R1 ?_ | refine Q1 ?_ | fail)); all_goals (conv => whnf))
  refine Some'.mk (0 : Nat) ?_
  ((repeat' ((conv => whnf) <;> first | exact True.intro | (guard_target =~ Fork _ _ _; first | refine F1 ?_ | refine F2 ?_ | refine F3 (fun h => ?_) fun h => ?_) | (guard_target =~ Ar _ _ _; first | refine A1 ?_ | refine A2 ?_ | refine A3 ?_) | (guard_target =~ AskL _ _; first | refine L1 ?_) | (guard_target =~ Go.Eng.Ask _ _; first | refine K1 ?_) | (guard_target =~ All' _ _; first | (refine Y2 fun y he he' hy => ?_; (try dsimp only at he he' hy)) | (refine Y1 fun y he hy => ?_; (try with_reducible conv at he => (rhs; whnf)); (try dsimp only at he hy)) | (refine All'.mk ?_; intro y hy)) | refine F4 (fun h => ?_) fun h => ?_ | refine R1 ?_ | refine Q1 ?_ | fail)); all_goals (conv => whnf))
  refine AllI.mk ?_
  rintro (i : Nat) hi
  have hi : 2 * i ≤ x.size := hi
  have hbl := bytesL_length x
  have hln := unhexL_len i ((bytesL x).take (2 * i)) (by rw [List.length_take]; omega)
  by_cases e : 2 * i + 1 < x.size
  · obtain ⟨c0, c1⟩ := byteAt_rng x (2 * i)
    obtain ⟨d0, d1⟩ := byteAt_rng x (2 * i + 1)
    have hc := byteAt_some (s := x) (i := 2 * i) (by omega)
    have hd := byteAt_some (s := x) (i := 2 * i + 1) (by omega)
    have hci := ixb (byteAt x (2 * i)) c0 c1
    have hr := uI_rng (byteAt x (2 * i))
    ((repeat' ((conv => whnf) <;> first | exact True.intro | (guard_target =~ Fork _ _ _; first | refine F1 ?_ | refine F2 ?_ | refine F3 (fun h => ?_) fun h => ?_) | (guard_target =~ Ar _ _ _; first | refine A1 ?_ | refine A2 ?_ | refine A3 ?_) | (guard_target =~ AskL _ _; first | refine L1 ?_) | (guard_target =~ Go.Eng.Ask _ _; first | refine K1 ?_) | (guard_target =~ All' _ _; first | (refine Y2 fun y he he' hy => ?_; (try dsimp only at he he' hy)) | (refine Y1 fun y he hy => ?_; (try with_reducible conv at he => (rhs; whnf)); (try dsimp only at he hy)) | (refine All'.mk ?_; intro y hy)) | refine F4 (fun h => ?_) fun h => ?_ | refine R1 ?_ | refine Q1 ?_ | fail)); all_goals (conv => whnf))
    refine CallP.mk (C := indexByteC) ⟨digS, (byteAt x (2 * i)).toNat.toUInt8⟩ ?_
    ((repeat' ((conv => whnf) <;> first | exact True.intro | (guard_target =~ Fork _ _ _; first | refine F1 ?_ | refine F2 ?_ | refine F3 (fun h => ?_) fun h => ?_) | (guard_target =~ Ar _ _ _; first | refine A1 ?_ | refine A2 ?_ | refine A3 ?_) | (guard_target =~ Go.Eng.Ask _ _; first | refine K1 ?_) | (guard_target =~ All' _ _; first | (refine Y2 fun y he he' hy => ?_; (try dsimp only at he he' hy)) | (refine Y1 fun y he hy => ?_; (try with_reducible conv at he => (rhs; whnf)); (try dsimp only at he hy)) | (refine All'.mk ?_; intro y hy)) | refine F4 (fun h => ?_) fun h => ?_ | refine R1 ?_ | refine Q1 ?_ | fail)); all_goals (conv => whnf))
    refine AskL.mk ⟨rfl, (u8_back _ c0 c1).symm⟩ ?_
    have hci' : -1 ≤ Lib.indexByte digS.data.toList (byteAt x (2 * i)).toNat.toUInt8 ∧ Lib.indexByte digS.data.toList (byteAt x (2 * i)).toNat.toUInt8 < 16 := by rw [hci]; split <;> omega
    ((repeat' ((conv => whnf) <;> first | exact True.intro | (guard_target =~ Fork _ _ _; first | refine F1 ?_ | refine F2 ?_ | refine F3 (fun h => ?_) fun h => ?_) | (guard_target =~ Ar _ _ _; first | refine A1 ?_ | refine A2 ?_ | refine A3 ?_) | (guard_target =~ AskL _ _; first | refine L1 ?_) | (guard_target =~ Go.Eng.Ask _ _; first | refine K1 ?_) | (guard_target =~ All' _ _; first | (refine Y2 fun y he he' hy => ?_; (try dsimp only at he he' hy)) | (refine Y1 fun y he hy => ?_; (try with_reducible conv at he => (rhs; whnf)); (try dsimp only at he hy)) | (refine All'.mk ?_; intro y hy)) | refine F4 (fun h => ?_) fun h => ?_ | refine R1 ?_ | refine Q1 ?_ | fail)); all_goals (conv => whnf))
    refine Ar.fit (wrap_i64 (by show (_ : Int) ≤ Lib.indexByte digS.data.toList (byteAt x (2 * i)).toNat.toUInt8 * 16; omega) (by show Lib.indexByte digS.data.toList (byteAt x (2 * i)).toNat.toUInt8 * 16 ≤ (_ : Int); omega)) ?_
    ((repeat' ((conv => whnf) <;> first | exact True.intro | (guard_target =~ Fork _ _ _; first | refine F1 ?_ | refine F2 ?_ | refine F3 (fun h => ?_) fun h => ?_) | (guard_target =~ Ar _ _ _; first | refine A1 ?_ | refine A2 ?_ | refine A3 ?_) | (guard_target =~ AskL _ _; first | refine L1 ?_) | (guard_target =~ Go.Eng.Ask _ _; first | refine K1 ?_) | (guard_target =~ All' _ _; first | (refine Y2 fun y he he' hy => ?_; (try dsimp only at he he' hy)) | (refine Y1 fun y he hy => ?_; (try with_reducible conv at he => (rhs; whnf)); (try dsimp only at he hy)) | (refine All'.mk ?_; intro y hy)) | refine F4 (fun h => ?_) fun h => ?_ | refine R1 ?_ | refine Q1 ?_ | fail)); all_goals (conv => whnf))
    refine CallP.mk (C := indexByteC) ⟨digS, (byteAt x (2 * i + 1)).toNat.toUInt8⟩ ?_
    ((repeat' ((conv => whnf) <;> first | exact True.intro | (guard_target =~ Fork _ _ _; first | refine F1 ?_ | refine F2 ?_ | refine F3 (fun h => ?_) fun h => ?_) | (guard_target =~ Ar _ _ _; first | refine A1 ?_ | refine A2 ?_ | refine A3 ?_) | (guard_target =~ Go.Eng.Ask _ _; first | refine K1 ?_) | (guard_target =~ All' _ _; first | (refine Y2 fun y he he' hy => ?_; (try dsimp only at he he' hy)) | (refine Y1 fun y he hy => ?_; (try with_reducible conv at he => (rhs; whnf)); (try dsimp only at he hy)) | (refine All'.mk ?_; intro y hy)) | refine F4 (fun h => ?_) fun h => ?_ | refine R1 ?_ | refine Q1 ?_ | fail)); all_goals (conv => whnf))
    refine AskL.mk ⟨rfl, (u8_back _ d0 d1).symm⟩ ?_
    ((repeat' ((conv => whnf) <;> first | exact True.intro | (guard_target =~ Fork _ _ _; first | refine F1 ?_ | refine F2 ?_ | refine F3 (fun h => ?_) fun h => ?_) | (guard_target =~ Ar _ _ _; first | refine A1 ?_ | refine A2 ?_ | refine A3 ?_) | (guard_target =~ AskL _ _; first | refine L1 ?_) | (guard_target =~ Go.Eng.Ask _ _; first | refine K1 ?_) | (guard_target =~ All' _ _; first | (refine Y2 fun y he he' hy => ?_; (try dsimp only at he he' hy)) | (refine Y1 fun y he hy => ?_; (try with_reducible conv at he => (rhs; whnf)); (try dsimp only at he hy)) | (refine All'.mk ?_; intro y hy)) | refine F4 (fun h => ?_) fun h => ?_ | refine R1 ?_ | refine Q1 ?_ | fail)); all_goals (conv => whnf))
    refine Some'.mk (i + 1) ?_
    ((repeat' ((conv => whnf) <;> first | exact True.intro | (guard_target =~ Fork _ _ _; first | refine F1 ?_ | refine F2 ?_ | refine F3 (fun h => ?_) fun h => ?_) | (guard_target =~ Ar _ _ _; first | refine A1 ?_ | refine A2 ?_ | refine A3 ?_) | (guard_target =~ Go.Eng.Ask _ _; first | refine K1 ?_) | (guard_target =~ All' _ _; first | (refine Y2 fun y he he' hy => ?_; (try dsimp only at he he' hy)) | (refine Y1 fun y he hy => ?_; (try with_reducible conv at he => (rhs; whnf)); (try dsimp only at he hy)) | (refine All'.mk ?_; intro y hy)) | refine F4 (fun h => ?_) fun h => ?_ | refine R1 ?_ | refine Q1 ?_ | fail)); all_goals (conv => whnf))
    refine AskL.mk ?_ ?_
    · simp only [conj]
      rw [show 2 * (i + 1) = 2 * i + 1 + 1 by omega, take_get hd, take_get hc, List.append_assoc]
      have hu := unhexL_snoc i ((bytesL x).take (2 * i)) (byteAt x (2 * i)) (byteAt x (2 * i + 1)) (by rw [List.length_take]; omega)
      rw [← mkI_eq _ _ c0 c1 d0 d1] at hu
      exact ⟨⟨trivial, by omega⟩, (congrArg (fun l => SV.ro true (Ty.int IntKind.u8) l) hu).symm⟩
    exact G1
  · have ht : (bytesL x).take (2 * i) ++ (bytesL x).drop (2 * i) = bytesL x := List.take_append_drop ..
    have ho := unhexL_odd i ((bytesL x).take (2 * i)) ((bytesL x).drop (2 * i)) (by rw [List.length_take]; omega) (by rw [List.length_drop]; omega)
    rw [ht] at ho
    exact G1

/-! ### The reference's -/
def unhexOk (l : List Int) : Bool := decide (l.length % 2 = 0) && l.all isH
@[reducible] def rUnhexC : Ctr := {
  X := ByteArray
  Y := Unit
  args := fun x => [.v (.string x)]
  rw := fun _ => []
  side := fun x => x.size ≤ 100000000000
  val := fun _ => ()
  ens := fun _ _ => True
  res := fun x _ => .tuple [.v (.string (if unhexOk (bytesL x) then strOfNums (unhexL (bytesL x)) else ⟨#[]⟩)), .v (.bool (unhexOk (bytesL x)))]
  out := fun _ _ => [] }
@[reducible] def rUnhexL (x : ByteArray) : LA := {
  X := Nat
  pre := fun i => 2 * i ≤ x.size ∧ ((bytesL x).take (2 * i)).all isH = true
  mu := fun i => x.size - 2 * i
  T := fun i => [(0, .v (.string x)), (4, .v (.string (strOfNums (unhexL ((bytesL x).take (2 * i)))))), (5, .v (.int .i64 (2 * i : Nat)))]
  M := fun i => [] }
def accI (c d : Int) (j : Nat) : Int := match j with | 0 => 0 | 1 => uI c | _ => uI c * 16 + uI d
@[reducible] def rUnhexL2 (x : ByteArray) (i : Nat) : LA := {
  X := Nat
  pre := fun j => j ≤ 2 ∧ ([byteAt x (2 * i), byteAt x (2 * i + 1)].take j).all isH = true
  mu := fun j => 2 - j
  T := fun j => [(0, .v (.string x)), (4, .v (.string (strOfNums (unhexL ((bytesL x).take (2 * i)))))), (5, .v (.int .i64 (2 * i : Nat))), (6, .v (.int .i64 (accI (byteAt x (2 * i)) (byteAt x (2 * i + 1)) j))),
    (26, .ro false (.int .u8) [byteAt x (2 * i), byteAt x (2 * i + 1)]), (27, .v (.int .i64 2)), (28, .v (.int .i64 (j : Nat)))]
  M := fun j => [] }
theorem isH_cases (c : Int) : (isH c = true ∧ ((48 ≤ c ∧ c ≤ 57 ∧ uI c = c - 48) ∨ (97 ≤ c ∧ c ≤ 102 ∧ uI c = c - 87))) ∨ (isH c = false ∧ ¬ (48 ≤ c ∧ c ≤ 57) ∧ ¬ (97 ≤ c ∧ c ≤ 102)) := by
  unfold isH uI
  by_cases h1 : 48 ≤ c ∧ c ≤ 57
  · left; exact ⟨by simp [h1], .inl ⟨h1.1, h1.2, if_pos h1⟩⟩
  · by_cases h2 : 97 ≤ c ∧ c ≤ 102
    · left; exact ⟨by simp [h1, h2], .inr ⟨h2.1, h2.2, by rw [if_neg h1, if_pos h2]⟩⟩
    · right; exact ⟨by simp [h1, h2], h1, h2⟩
theorem not_ok {l : List Int} {i : Nat} {c : Int} (h : l[i]? = some c) (hc : isH c = false) : unhexOk l = false := by
  unfold unhexOk
  have : l.all isH = false := List.all_eq_false.2 ⟨c, List.mem_of_getElem? h, by simp [hc]⟩
  rw [this, Bool.and_false]
theorem rUnhex_ok : rUnhexC.ok Tryd.prog 31 := by
  refine ok_of_vc (An := fun (x : ByteArray) => anOfM fun ms => [(0, .loop (rUnhexL x)), (2, .loop (rUnhexL2 x ((x.size - ms.headD 0) / 2)))]) (known_nil _) mo Tryd.func31 (by kernel_rfl) (by kernel_rfl) (fun _ _ => trivial) (fun (x : ByteArray) hs => ?_)
  have hs : x.size ≤ 100000000000 := hs
  have hbl := bytesL_length x
  have htm : ((x.size : Nat) : Int).tmod 2 = ((x.size % 2 : Nat) : Int) := (Int.ofNat_tmod x.size 2).symm
  by_cases hev : x.size % 2 = 1
  · rw [hev] at htm
    have hno : unhexOk (bytesL x) = false := by
      unfold unhexOk
      rw [decide_eq_false (by omega), Bool.false_and]
    exact G1
  have htm : ((x.size : Nat) : Int).tmod 2 = 0 := by rw [htm]; omega
  ((repeat' ((conv => whnf) <;> first | exact True.intro | (guard_target =~ Fork _ _ _; first | refine F1 ?_ | refine F2 ?_ | refine F3 (fun h => ?_) fun h => ?_) | (guard_target =~ Ar _ _ _; first | refine A1 ?_ | refine A2 ?_ | refine A3 ?_) | (guard_target =~ AskL _ _; first | refine L1 ?_) | (guard_target =~ Go.Eng.Ask _ _; first | refine K1 ?_) | (guard_target =~ All' _ _; first | (refine Y2 fun y he he' hy => ?_; (try dsimp only at he he' hy)) | (refine Y1 fun y he hy => ?_; (try with_reducible conv at he => (rhs; whnf)); (try dsimp only at he hy)) | (refine All'.mk ?_; intro y hy)) | refine F4 (fun h => ?_) fun h => ?_ | refine R1 ?_ | refine Q1 ?_ | fail)); all_goals (conv => whnf))
  refine Some'.mk (0 : Nat) ?_
  ((repeat' ((conv => whnf) <;> first | exact True.intro | (guard_target =~ Fork _ _ _; first | refine F1 ?_ | refine F2 ?_ | refine F3 (fun h => ?_) fun h => ?_) | (guard_target =~ Ar _ _ _; first | refine A1 ?_ | refine A2 ?_ | refine A3 ?_) | (guard_target =~ AskL _ _; first | refine L1 ?_) | (guard_target =~ Go.Eng.Ask _ _; first | refine K1 ?_) | (guard_target =~ All' _ _; first | (refine Y2 fun y he he' hy => ?_; (try dsimp only at he he' hy)) | (refine Y1 fun y he hy => ?_; (try with_reducible conv at he => (rhs; whnf)); (try dsimp only at he hy)) | (refine All'.mk ?_; intro y hy)) | refine F4 (fun h => ?_) fun h => ?_ | refine R1 ?_ | refine Q1 ?_ | fail)); all_goals (conv => whnf))
  refine Ask.mk ⟨Nat.zero_le _, rfl⟩ ?_
  ((repeat' ((conv => whnf) <;> first | exact True.intro | (guard_target =~ Fork _ _ _; first | refine F1 ?_ | refine F2 ?_ | refine F3 (fun h => ?_) fun h => ?_) | (guard_target =~ Ar _ _ _; first | refine A1 ?_ | refine A2 ?_ | refine A3 ?_) | (guard_target =~ AskL _ _; first | refine L1 ?_) | (guard_target =~ Go.Eng.Ask _ _; first | refine K1 ?_) | (guard_target =~ All' _ _; first | (refine Y2 fun y he he' hy => ?_; (try dsimp only at he he' hy)) | (refine Y1 fun y he hy => ?_; (try with_reducible conv at he => (rhs; whnf)); (try dsimp only at he hy)) | (refine All'.mk ?_; intro y hy)) | refine F4 (fun h => ?_) fun h => ?_ | refine R1 ?_ | refine Q1 ?_ | fail)); all_goals (conv => whnf))
  refine AllI.mk ?_
  rintro (i : Nat) ⟨hi, hal⟩
  have hi : 2 * i ≤ x.size := hi
  have hal : ((bytesL x).take (2 * i)).all isH = true := hal
  have hln := unhexL_len i ((bytesL x).take (2 * i)) (by rw [List.length_take]; omega)
  by_cases e : 2 * i < x.size
  · obtain ⟨c0, c1⟩ := byteAt_rng x (2 * i)
    obtain ⟨d0, d1⟩ := byteAt_rng x (2 * i + 1)
    have hc := byteAt_some (s := x) (i := 2 * i) (by omega)
    have hd := byteAt_some (s := x) (i := 2 * i + 1) (by omega)
    have hms : (x.size - (x.size - 2 * i)) / 2 = i := by omega
    ((repeat' ((conv => whnf) <;> first | exact True.intro | (guard_target =~ Fork _ _ _; first | refine F1 ?_ | refine F2 ?_ | refine F3 (fun h => ?_) fun h => ?_) | (guard_target =~ Ar _ _ _; first | refine A1 ?_ | refine A2 ?_ | refine A3 ?_) | (guard_target =~ AskL _ _; first | refine L1 ?_) | (guard_target =~ Go.Eng.Ask _ _; first | refine K1 ?_) | (guard_target =~ All' _ _; first | (refine Y2 fun y he he' hy => ?_; (try dsimp only at he he' hy)) | (refine Y1 fun y he hy => ?_; (try with_reducible conv at he => (rhs; whnf)); (try dsimp only at he hy)) | (refine All'.mk ?_; intro y hy)) | refine F4 (fun h => ?_) fun h => ?_ | refine R1 ?_ | refine Q1 ?_ | fail)); all_goals (conv => whnf))
    rw [show (x.size - [(rUnhexL x).mu i].headD 0) / 2 = i from hms]
    refine Some'.mk (0 : Nat) ?_
    ((repeat' ((conv => whnf) <;> first | exact True.intro | (guard_target =~ Fork _ _ _; first | refine F1 ?_ | refine F2 ?_ | refine F3 (fun h => ?_) fun h => ?_) | (guard_target =~ Ar _ _ _; first | refine A1 ?_ | refine A2 ?_ | refine A3 ?_) | (guard_target =~ AskL _ _; first | refine L1 ?_) | (guard_target =~ Go.Eng.Ask _ _; first | refine K1 ?_) | (guard_target =~ All' _ _; first | (refine Y2 fun y he he' hy => ?_; (try dsimp only at he he' hy)) | (refine Y1 fun y he hy => ?_; (try with_reducible conv at he => (rhs; whnf)); (try dsimp only at he hy)) | (refine All'.mk ?_; intro y hy)) | refine F4 (fun h => ?_) fun h => ?_ | refine R1 ?_ | refine Q1 ?_ | fail)); all_goals (conv => whnf))
    refine AllI.mk ?_
    rintro (j : Nat) ⟨hj, hj2⟩
    have hj : j ≤ 2 := hj
    have hj2 : ([byteAt x (2 * i), byteAt x (2 * i + 1)].take j).all isH = true := hj2
    have hj : j = 0 ∨ j = 1 ∨ j = 2 := by omega
    rcases hj with rfl | rfl | rfl
    · ((repeat' ((conv => whnf) <;> first | exact True.intro | (guard_target =~ Fork _ _ _; first | refine F1 ?_ | refine F2 ?_ | refine F3 (fun h => ?_) fun h => ?_) | (guard_target =~ Ar _ _ _; first | refine A1 ?_ | refine A2 ?_ | refine A3 ?_) | (guard_target =~ AskL _ _; first | refine L1 ?_) | (guard_target =~ Go.Eng.Ask _ _; first | refine K1 ?_) | (guard_target =~ All' _ _; first | (refine Y2 fun y he he' hy => ?_; (try dsimp only at he he' hy)) | (refine Y1 fun y he hy => ?_; (try with_reducible conv at he => (rhs; whnf)); (try dsimp only at he hy))) | refine F4 (fun h => ?_) fun h => ?_ | refine R1 ?_ | refine Q1 ?_ | fail)); all_goals (conv => whnf))
      refine All'.mk ?_; rintro (y : Int) hy
      have e : y = byteAt x (2 * i) := (Option.some.inj hy).symm
      subst e
      have hwc : IntKind.i64.wrap (byteAt x (2 * i)) = byteAt x (2 * i) := wrap_i64 (by omega) (by omega)
      have hcase := isH_cases (byteAt x (2 * i))
      have ha := uI_rng (byteAt x (2 * i))
      by_cases hH : isH (byteAt x (2 * i)) = true
      · have hcase : (48 ≤ byteAt x (2 * i) ∧ byteAt x (2 * i) ≤ 57 ∧ uI (byteAt x (2 * i)) = byteAt x (2 * i) - 48) ∨ (97 ≤ byteAt x (2 * i) ∧ byteAt x (2 * i) ≤ 102 ∧ uI (byteAt x (2 * i)) = byteAt x (2 * i) - 87) := by
          rcases hcase with h | h
          · exact h.2
          · rw [hH] at h; exact absurd h.1 (by decide)
        have hall : ([byteAt x (2 * i), byteAt x (2 * i + 1)].take (0 + 1)).all isH = true := by
          simp [hH]
        have hacc : accI (byteAt x (2 * i)) (byteAt x (2 * i + 1)) 0 = 0 := rfl
        have hacc2 : accI (byteAt x (2 * i)) (byteAt x (2 * i + 1)) (0 + 1) = uI (byteAt x (2 * i)) := rfl
        have lm := And.intro hacc (And.intro hacc2 hwc)
        rcases hcase with ⟨q1, q2, q3⟩ | ⟨q1, q2, q3⟩
        all_goals
          ((repeat' ((conv => whnf) <;> first | exact True.intro | (guard_target =~ Fork _ _ _; first | refine F1 ?_ | refine F2 ?_ | refine F3 (fun h => ?_) fun h => ?_) | (guard_target =~ Ar _ _ _; first | refine A1 ?_ | refine A2 ?_ | refine A3 ?_) | (guard_target =~ AskL _ _; first | refine L1 ?_) | (guard_target =~ Go.Eng.Ask _ _; first | refine K1 ?_) | (guard_target =~ All' _ _; first | (refine Y2 fun y he he' hy => ?_; (try dsimp only at he he' hy)) | (refine Y1 fun y he hy => ?_; (try with_reducible conv at he => (rhs; whnf)); (try dsimp only at he hy)) | (refine All'.mk ?_; intro y hy)) | refine F4 (fun h => ?_) fun h => ?_ | refine R1 ?_ | refine Q1 ?_ | fail)); all_goals (conv => whnf))
          refine Some'.mk (0 + 1 : Nat) ?_
          ((repeat' ((conv => whnf) <;> first | exact True.intro | (guard_target =~ Fork _ _ _; first | refine F1 ?_ | refine F2 ?_ | refine F3 (fun h => ?_) fun h => ?_) | (guard_target =~ Ar _ _ _; first | refine A1 ?_ | refine A2 ?_ | refine A3 ?_) | (guard_target =~ AskL _ _; first | refine L1 ?_) | (guard_target =~ Go.Eng.Ask _ _; first | refine K1 ?_) | (guard_target =~ All' _ _; first | (refine Y2 fun y he he' hy => ?_; (try dsimp only at he he' hy)) | (refine Y1 fun y he hy => ?_; (try with_reducible conv at he => (rhs; whnf)); (try dsimp only at he hy)) | (refine All'.mk ?_; intro y hy)) | refine F4 (fun h => ?_) fun h => ?_ | refine R1 ?_ | refine Q1 ?_ | fail)); all_goals (conv => whnf))
      · have hf : isH (byteAt x (2 * i)) = false := by simpa using hH
        have hcase : ¬ (48 ≤ byteAt x (2 * i) ∧ byteAt x (2 * i) ≤ 57) ∧ ¬ (97 ≤ byteAt x (2 * i) ∧ byteAt x (2 * i) ≤ 102) := by
          rcases hcase with h | h
          · exact absurd h.1 hH
          · exact h.2
        have hno := not_ok hc hf
        exact G1
    · ((repeat' ((conv => whnf) <;> first | exact True.intro | (guard_target =~ Fork _ _ _; first | refine F1 ?_ | refine F2 ?_ | refine F3 (fun h => ?_) fun h => ?_) | (guard_target =~ Ar _ _ _; first | refine A1 ?_ | refine A2 ?_ | refine A3 ?_) | (guard_target =~ AskL _ _; first | refine L1 ?_) | (guard_target =~ Go.Eng.Ask _ _; first | refine K1 ?_) | (guard_target =~ All' _ _; first | (refine Y2 fun y he he' hy => ?_; (try dsimp only at he he' hy)) | (refine Y1 fun y he hy => ?_; (try with_reducible conv at he => (rhs; whnf)); (try dsimp only at he hy))) | refine F4 (fun h => ?_) fun h => ?_ | refine R1 ?_ | refine Q1 ?_ | fail)); all_goals (conv => whnf))
      refine All'.mk ?_; rintro (y : Int) hy
      have e : y = byteAt x (2 * i + 1) := (Option.some.inj hy).symm
      subst e
      have hwc : IntKind.i64.wrap (byteAt x (2 * i + 1)) = byteAt x (2 * i + 1) := wrap_i64 (by omega) (by omega)
      have hcase := isH_cases (byteAt x (2 * i + 1))
      have ha := uI_rng (byteAt x (2 * i))
      by_cases hH : isH (byteAt x (2 * i + 1)) = true
      · have hcase : (48 ≤ byteAt x (2 * i + 1) ∧ byteAt x (2 * i + 1) ≤ 57 ∧ uI (byteAt x (2 * i + 1)) = byteAt x (2 * i + 1) - 48) ∨ (97 ≤ byteAt x (2 * i + 1) ∧ byteAt x (2 * i + 1) ≤ 102 ∧ uI (byteAt x (2 * i + 1)) = byteAt x (2 * i + 1) - 87) := by
          rcases hcase with h | h
          · exact h.2
          · rw [hH] at h; exact absurd h.1 (by decide)
        have hall : ([byteAt x (2 * i), byteAt x (2 * i + 1)].take (1 + 1)).all isH = true := by
          simp only [List.take, List.all_cons, List.all_nil, Bool.and_true, Bool.and_eq_true] at hj2 ⊢; exact ⟨hj2, hH⟩
        have hacc : accI (byteAt x (2 * i)) (byteAt x (2 * i + 1)) 1 = uI (byteAt x (2 * i)) := rfl
        have hacc2 : accI (byteAt x (2 * i)) (byteAt x (2 * i + 1)) (1 + 1) = uI (byteAt x (2 * i)) * 16 + uI (byteAt x (2 * i + 1)) := rfl
        have lm := And.intro hacc (And.intro hacc2 hwc)
        rcases hcase with ⟨q1, q2, q3⟩ | ⟨q1, q2, q3⟩
        all_goals
          ((repeat' ((conv => whnf) <;> first | exact True.intro | (guard_target =~ Fork _ _ _; first | refine F1 ?_ | refine F2 ?_ | refine F3 (fun h => ?_) fun h => ?_) | (guard_target =~ Ar _ _ _; first | refine A1 ?_ | refine A2 ?_ | refine A3 ?_) | (guard_target =~ AskL _ _; first | refine L1 ?_) | (guard_target =~ Go.Eng.Ask _ _; first | refine K1 ?_) | (guard_target =~ All' _ _; first | (refine Y2 fun y he he' hy => ?_; (try dsimp only at he he' hy)) | (refine Y1 fun y he hy => ?_; (try with_reducible conv at he => (rhs; whnf)); (try dsimp only at he hy)) | (refine All'.mk ?_; intro y hy)) | refine F4 (fun h => ?_) fun h => ?_ | refine R1 ?_ | refine Q1 ?_ | fail)); all_goals (conv => whnf))
          refine Some'.mk (1 + 1 : Nat) ?_
          ((repeat' ((conv => whnf) <;> first | exact True.intro | (guard_target =~ Fork _ _ _; first | refine F1 ?_ | refine F2 ?_ | refine F3 (fun h => ?_) fun h => ?_) | (guard_target =~ Ar _ _ _; first | refine A1 ?_ | refine A2 ?_ | refine A3 ?_) | (guard_target =~ AskL _ _; first | refine L1 ?_) | (guard_target =~ Go.Eng.Ask _ _; first | refine K1 ?_) | (guard_target =~ All' _ _; first | (refine Y2 fun y he he' hy => ?_; (try dsimp only at he he' hy)) | (refine Y1 fun y he hy => ?_; (try with_reducible conv at he => (rhs; whnf)); (try dsimp only at he hy)) | (refine All'.mk ?_; intro y hy)) | refine F4 (fun h => ?_) fun h => ?_ | refine R1 ?_ | refine Q1 ?_ | fail)); all_goals (conv => whnf))
      · have hf : isH (byteAt x (2 * i + 1)) = false := by simpa using hH
        have hcase : ¬ (48 ≤ byteAt x (2 * i + 1) ∧ byteAt x (2 * i + 1) ≤ 57) ∧ ¬ (97 ≤ byteAt x (2 * i + 1) ∧ byteAt x (2 * i + 1) ≤ 102) := by
          rcases hcase with h | h
          · exact absurd h.1 hH
          · exact h.2
        have hno := not_ok hd hf
        exact G1
    · have hdc := uI_rng (byteAt x (2 * i))
      have hdd := uI_rng (byteAt x (2 * i + 1))
      have hacc : accI (byteAt x (2 * i)) (byteAt x (2 * i + 1)) 2 = uI (byteAt x (2 * i)) * 16 + uI (byteAt x (2 * i + 1)) := rfl
      have hw : IntKind.u8.wrap (uI (byteAt x (2 * i)) * 16 + uI (byteAt x (2 * i + 1))) = uI (byteAt x (2 * i)) * 16 + uI (byteAt x (2 * i + 1)) := wrap_u8 (by omega) (by omega)
      ((repeat' ((conv => whnf) <;> first | exact True.intro | (guard_target =~ Fork _ _ _; first | refine F1 ?_ | refine F2 ?_ | refine F3 (fun h => ?_) fun h => ?_) | (guard_target =~ Ar _ _ _; first | refine A1 ?_ | refine A2 ?_ | refine A3 ?_) | (guard_target =~ AskL _ _; first | refine L1 ?_) | (guard_target =~ Go.Eng.Ask _ _; first | refine K1 ?_) | (guard_target =~ All' _ _; first | (refine Y2 fun y he he' hy => ?_; (try dsimp only at he he' hy)) | (refine Y1 fun y he hy => ?_; (try with_reducible conv at he => (rhs; whnf)); (try dsimp only at he hy)) | (refine All'.mk ?_; intro y hy)) | refine F4 (fun h => ?_) fun h => ?_ | refine R1 ?_ | refine Q1 ?_ | fail)); all_goals (conv => whnf))
      refine Ask.mk (by rw [hacc, hw]; simp only [str_size]; simp only [List.length_cons, List.length_nil]; omega) ?_
      have hu := unhexL_snoc i ((bytesL x).take (2 * i)) (byteAt x (2 * i)) (byteAt x (2 * i + 1)) (by rw [List.length_take]; omega)
      have ht : (bytesL x).take (2 * (i + 1)) = (bytesL x).take (2 * i) ++ [byteAt x (2 * i), byteAt x (2 * i + 1)] := by
        rw [show 2 * (i + 1) = 2 * i + 1 + 1 by omega, take_get hd, take_get hc, List.append_assoc]; rfl
      rw [← ht] at hu
      ((repeat' ((conv => whnf) <;> first | exact True.intro | (guard_target =~ Fork _ _ _; first | refine F1 ?_ | refine F2 ?_ | refine F3 (fun h => ?_) fun h => ?_) | (guard_target =~ Ar _ _ _; first | refine A1 ?_ | refine A2 ?_ | refine A3 ?_) | (guard_target =~ AskL _ _; first | refine L1 ?_) | (guard_target =~ Go.Eng.Ask _ _; first | refine K1 ?_) | (guard_target =~ All' _ _; first | (refine Y2 fun y he he' hy => ?_; (try dsimp only at he he' hy)) | (refine Y1 fun y he hy => ?_; (try with_reducible conv at he => (rhs; whnf)); (try dsimp only at he hy)) | (refine All'.mk ?_; intro y hy)) | refine F4 (fun h => ?_) fun h => ?_ | refine R1 ?_ | refine Q1 ?_ | fail)); all_goals (conv => whnf))
      refine Some'.mk (i + 1) ?_
      ((repeat' ((conv => whnf) <;> first | exact True.intro | (guard_target =~ Fork _ _ _; first | refine F1 ?_ | refine F2 ?_ | refine F3 (fun h => ?_) fun h => ?_) | (guard_target =~ Ar _ _ _; first | refine A1 ?_ | refine A2 ?_ | refine A3 ?_) | (guard_target =~ Go.Eng.Ask _ _; first | refine K1 ?_) | (guard_target =~ All' _ _; first | (refine Y2 fun y he he' hy => ?_; (try dsimp only at he he' hy)) | (refine Y1 fun y he hy => ?_; (try with_reducible conv at he => (rhs; whnf)); (try dsimp only at he hy)) | (refine All'.mk ?_; intro y hy)) | refine F4 (fun h => ?_) fun h => ?_ | refine R1 ?_ | refine Q1 ?_ | fail)); all_goals (conv => whnf))
      refine AskL.mk ?_ ?_
      · simp only [conj, hacc, hw, str_cat, ← hu]
        (repeat' apply And.intro) <;> first | rfl | trivial | omega
      ((repeat' ((conv => whnf) <;> first | exact True.intro | (guard_target =~ Fork _ _ _; first | refine F1 ?_ | refine F2 ?_ | refine F3 (fun h => ?_) fun h => ?_) | (guard_target =~ Ar _ _ _; first | refine A1 ?_ | refine A2 ?_ | refine A3 ?_) | (guard_target =~ AskL _ _; first | refine L1 ?_) | (guard_target =~ Go.Eng.Ask _ _; first | refine K1 ?_) | (guard_target =~ All' _ _; first | (refine Y2 fun y he he' hy => ?_; (try dsimp only at he he' hy)) | (refine Y1 fun y he hy => ?_; (try with_reducible conv at he => (rhs; whnf)); (try dsimp only at he hy)) | (refine All'.mk ?_; intro y hy)) | refine F4 (fun h => ?_) fun h => ?_ | refine R1 ?_ | refine Q1 ?_ | fail)); all_goals (conv => whnf))
      refine Ask.mk ⟨by dsimp only; omega, ?_⟩ ?_
      · show ((bytesL x).take (2 * (i + 1))).all isH = true
        rw [ht, List.all_append, hal]
        exact hj2
      exact G1
  · have hie : 2 * i = x.size := by omega
    have ht : (bytesL x).take (2 * i) = bytesL x := by rw [hie, ← hbl]; exact List.take_length
    rw [ht] at hal
    have hok : unhexOk (bytesL x) = true := by unfold unhexOk; rw [hal, decide_eq_true (by omega)]; rfl
    ((repeat' ((conv => whnf) <;> first | exact True.intro | (guard_target =~ Fork _ _ _; first | refine F1 ?_ | refine F2 ?_ | refine F3 (fun h => ?_) fun h => ?_) | (guard_target =~ Ar _ _ _; first | refine A1 ?_ | refine A2 ?_ | refine A3 ?_) | (guard_target =~ AskL _ _; first | refine L1 ?_) | (guard_target =~ Go.Eng.Ask _ _; first | refine K1 ?_) | (guard_target =~ All' _ _; first | (refine Y2 fun y he he' hy => ?_; (try dsimp only at he he' hy)) | (refine Y1 fun y he hy => ?_; (try with_reducible conv at he => (rhs; whnf)); (try dsimp only at he hy)) | (refine All'.mk ?_; intro y hy)) | refine F4 (fun h => ?_) fun h => ?_ | refine R1 ?_ | refine Q1 ?_ | fail)); all_goals (conv => whnf))
    refine AskL.mk ?_ trivial
    simp only [conj, hok, ht, if_true]
    trivial
end Go.Proofs.YtghejeecanohoaaDoor

/-! Contracts of strconv.Itoa, out of the kit's. -/
namespace Go.Proofs.YtghejeecanohoaaDoor
open Go.Shelf Go.RowKit Go.Sort Go.Lib Go.Eng
set_option linter.unusedVariables false
set_option linter.unusedSimpArgs false

def itoaS (n : Int) : ByteArray := ⟨(Lib.itoa n).toArray⟩
def decS (n : Nat) : ByteArray := ⟨(Lib.decDigits n).toArray⟩
theorem itoaS_nat (n : Nat) : itoaS (n : Int) = decS n := by unfold itoaS decS; rw [Lib.itoa_nonneg]

theorem tabPow {E : Env} {w : World} (h : GlobOk E w) : Lib.TabIs Tryd.prog w "internal/strconv.uint64pow10" .u64 Lib.pow10Tab :=
  glob_tab (g := 3) h (by kernel_rfl) (List.mem_cons_self ..) (fun a ha => by rw [ha]; simp [Lib.pow10Tab, Function.comp_def])

@[reducible] def itoaC : Ctr := {
  X := Int
  Y := Unit
  args := fun n => [.v (.int .i64 n)]
  rw := fun _ => []
  side := fun n => -9223372036854775808 ≤ n ∧ n ≤ 9223372036854775807
  val := fun _ => ()
  ens := fun _ _ => True
  res := fun n _ => .v (.string (itoaS n))
  out := fun _ _ => [] }
theorem itoa_ok : itoaC.ok Tryd.prog 34 := by
  refine ok_of_walk (fun _ => rfl) (fun _ => rfl) (fun n hs => ⟨trivial, fun E w vals hsz hv hg hI => ?_⟩)
  rw [vals_one hsz, sat_v (hv 0 _ rfl)]
  refine (Tryd.strconv_Itoa n hs.1 hs.2 w (tabPow hg)).mono ?_
  rintro e w' ⟨rfl, k, os, rfl⟩
  exact ⟨_, rfl, .v _, below_grow w k os⟩
end Go.Proofs.YtghejeecanohoaaDoor

/-! Numbers as digits, and back; texts cut at a byte. -/
set_option linter.unusedVariables false
set_option linter.unusedSimpArgs false
set_option maxRecDepth 100000
set_option maxHeartbeats 4000000
namespace Go.Proofs.YtghejeecanohoaaDoor
open Go.Eng

/-- A number's digits. -/
def decL (n : Nat) : List Int := if h : n < 10 then [48 + (n : Int)] else decL (n / 10) ++ [48 + ((n % 10 : Nat) : Int)]
termination_by n
decreasing_by omega
theorem decL_small {n : Nat} (h : n < 10) : decL n = [48 + (n : Int)] := by rw [decL, dif_pos h]
theorem decL_great {n : Nat} (h : ¬ n < 10) : decL n = decL (n / 10) ++ [48 + ((n % 10 : Nat) : Int)] := by rw [decL, dif_neg h]
theorem decL_dec (n : Nat) : (Lib.decDigits n).map (fun b => (b.toNat : Int)) = decL n := by
  induction n using Nat.strongRecOn with
  | _ n ih =>
    by_cases h : n < 10
    · rw [decL_small h, Lib.decDigits, dif_pos h]
      simp only [List.map_cons, List.map_nil, UInt8.toNat_ofNat']
      congr 1; omega
    · rw [decL_great h, Lib.decDigits, dif_neg h, List.map_append, ih (n / 10) (by omega)]
      simp only [List.map_cons, List.map_nil, UInt8.toNat_ofNat']
      congr 2; omega
theorem itoa_dec {n : Int} (h : 0 ≤ n) : itoaS n = strOfNums (decL n.toNat) := by
  obtain ⟨k, rfl⟩ := Int.eq_ofNat_of_zero_le h
  rw [itoaS_nat, ← str_bytesL (decS k)]
  show _ = strOfNums (decL k)
  rw [← decL_dec]; rfl
theorem decL_len : ∀ (k n : Nat), n < 10 ^ (k + 1) → (decL n).length ≤ k + 1
  | 0, n, h => by rw [decL_small (by omega)]; simp
  | k + 1, n, h => by
    by_cases h10 : n < 10
    · rw [decL_small h10]; simp
    · have := decL_len k (n / 10) (by rw [Nat.pow_succ] at h; omega)
      rw [decL_great h10, List.length_append, List.length_singleton]; omega

@[reducible] def digitsC : Ctr := {
  X := Int
  Y := Unit
  args := fun n => [.v (.int .i64 n)]
  rw := fun _ => []
  side := fun n => 0 ≤ n ∧ n ≤ 1099511627776
  val := fun _ => ()
  ens := fun _ _ => True
  res := fun n _ => .v (.string (strOfNums (decL n.toNat)))
  out := fun _ _ => [] }
structure DigS where
  m : Nat
  r : List Int
@[reducible] def digitsL (n : Int) : LA := {
  X := DigS
  pre := fun s => decL s.m ++ s.r = decL n.toNat ∧ s.m ≤ 1099511627776
  mu := fun s => s.m
  T := fun s => [(0, .v (.int .i64 (s.m : Nat))), (3, .v (.string (strOfNums s.r)))]
  M := fun _ => [] }
theorem digits_ok : digitsC.ok Tryd.prog 22 := by
  refine ok_of_vc (An := fun (n : Int) => anOf [(0, .loop (digitsL n))]) (known_nil _) mo Tryd.func22 (by kernel_rfl) (by kernel_rfl) (fun _ _ => trivial) (fun (n : Int) hs => ?_)
  obtain ⟨h0, h1⟩ : 0 ≤ n ∧ n ≤ 1099511627776 := hs
  have hlen := decL_len 12 n.toNat (by omega)
  ((repeat' ((conv => whnf) <;> first | exact True.intro | (guard_target =~ Fork _ _ _; first | refine F1 ?_ | refine F2 ?_ | refine F3 (fun h => ?_) fun h => ?_) | (guard_target =~ Ar _ _ _; first | refine A1 ?_ | refine A2 ?_ | refine A3 ?_) | (guard_target =~ AskL _ _; first | refine L1 ?_) | (guard_target =~ Go.Eng.Ask _ _; first | refine K1 ?_) | (guard_target =~ All' _ _; first | (refine Y2 fun y he he' hy => ?_; (try dsimp only at he he' hy)) | (refine Y1 fun y he hy => ?_; (try with_reducible conv at he => (rhs; whnf)); (try dsimp only at he hy)) | (refine All'.mk ?_; intro y hy)) | refine F4 (fun h => ?_) fun h => ?_ | refine R1 ?_ | refine Q1 ?_ | fail)); all_goals (conv => whnf))
  refine Some'.mk ⟨n.toNat, []⟩ ?_
  ((repeat' ((conv => whnf) <;> first | exact True.intro | (guard_target =~ Fork _ _ _; first | refine F1 ?_ | refine F2 ?_ | refine F3 (fun h => ?_) fun h => ?_) | (guard_target =~ Ar _ _ _; first | refine A1 ?_ | refine A2 ?_ | refine A3 ?_) | (guard_target =~ AskL _ _; first | refine L1 ?_) | (guard_target =~ Go.Eng.Ask _ _; first | refine K1 ?_) | (guard_target =~ All' _ _; first | (refine Y2 fun y he he' hy => ?_; (try dsimp only at he he' hy)) | (refine Y1 fun y he hy => ?_; (try with_reducible conv at he => (rhs; whnf)); (try dsimp only at he hy)) | (refine All'.mk ?_; intro y hy)) | refine F4 (fun h => ?_) fun h => ?_ | refine R1 ?_ | refine Q1 ?_ | fail)); all_goals (conv => whnf))
  refine Ask.mk ⟨List.append_nil _, by dsimp only; omega⟩ ?_
  ((repeat' ((conv => whnf) <;> first | exact True.intro | (guard_target =~ Fork _ _ _; first | refine F1 ?_ | refine F2 ?_ | refine F3 (fun h => ?_) fun h => ?_) | (guard_target =~ Ar _ _ _; first | refine A1 ?_ | refine A2 ?_ | refine A3 ?_) | (guard_target =~ AskL _ _; first | refine L1 ?_) | (guard_target =~ Go.Eng.Ask _ _; first | refine K1 ?_) | (guard_target =~ All' _ _; first | (refine Y2 fun y he he' hy => ?_; (try dsimp only at he he' hy)) | (refine Y1 fun y he hy => ?_; (try with_reducible conv at he => (rhs; whnf)); (try dsimp only at he hy)) | (refine All'.mk ?_; intro y hy)) | refine F4 (fun h => ?_) fun h => ?_ | refine R1 ?_ | refine Q1 ?_ | fail)); all_goals (conv => whnf))
  refine AllI.mk ?_
  rintro ⟨m, r⟩ ⟨hm, hb⟩
  dsimp only at hm hb
  have hrl : r.length ≤ 13 := by
    have := congrArg List.length hm
    rw [List.length_append] at this; omega
  have htm : ((m : Nat) : Int).tmod 10 = ((m % 10 : Nat) : Int) := (Int.ofNat_tmod m 10).symm
  have htd : ((m : Nat) : Int).tdiv 10 = ((m / 10 : Nat) : Int) := (Int.ofNat_tdiv m 10).symm
  by_cases h10 : m < 10
  · have e := decL_small h10
    have hw : IntKind.u8.wrap (48 + ((m : Nat) : Int)) = 48 + ((m : Nat) : Int) := wrap_u8 (by omega) (by omega)
    ((repeat' ((conv => whnf) <;> first | exact True.intro | (guard_target =~ Fork _ _ _; first | refine F1 ?_ | refine F2 ?_ | refine F3 (fun h => ?_) fun h => ?_) | (guard_target =~ Ar _ _ _; first | refine A1 ?_ | refine A2 ?_ | refine A3 ?_) | (guard_target =~ AskL _ _; first | refine L1 ?_) | (guard_target =~ Go.Eng.Ask _ _; first | refine K1 ?_) | (guard_target =~ All' _ _; first | (refine Y2 fun y he he' hy => ?_; (try dsimp only at he he' hy)) | (refine Y1 fun y he hy => ?_; (try with_reducible conv at he => (rhs; whnf)); (try dsimp only at he hy)) | (refine All'.mk ?_; intro y hy)) | refine F4 (fun h => ?_) fun h => ?_ | refine R1 ?_ | refine Q1 ?_ | fail)); all_goals (conv => whnf))
    refine Ask.mk (by simp only [str_size, List.length_cons, List.length_nil]; omega) ?_
    ((repeat' ((conv => whnf) <;> first | exact True.intro | (guard_target =~ Fork _ _ _; first | refine F1 ?_ | refine F2 ?_ | refine F3 (fun h => ?_) fun h => ?_) | (guard_target =~ Ar _ _ _; first | refine A1 ?_ | refine A2 ?_ | refine A3 ?_) | (guard_target =~ Go.Eng.Ask _ _; first | refine K1 ?_) | (guard_target =~ All' _ _; first | (refine Y2 fun y he he' hy => ?_; (try dsimp only at he he' hy)) | (refine Y1 fun y he hy => ?_; (try with_reducible conv at he => (rhs; whnf)); (try dsimp only at he hy)) | (refine All'.mk ?_; intro y hy)) | refine F4 (fun h => ?_) fun h => ?_ | refine R1 ?_ | refine Q1 ?_ | fail)); all_goals (conv => whnf))
    refine AskL.mk ?_ trivial
    simp only [conj, str_cat, hw]
    rw [← hm, e]
  · have e := decL_great h10
    have hw : IntKind.u8.wrap (48 + ((m % 10 : Nat) : Int)) = 48 + ((m % 10 : Nat) : Int) := wrap_u8 (by omega) (by omega)
    have lm := And.intro htm (And.intro htd hw)
    ((repeat' ((conv => whnf) <;> first | exact True.intro | (guard_target =~ Fork _ _ _; first | refine F1 ?_ | refine F2 ?_ | refine F3 (fun h => ?_) fun h => ?_) | (guard_target =~ Ar _ _ _; first | refine A1 ?_ | refine A2 ?_ | refine A3 ?_) | (guard_target =~ AskL _ _; first | refine L1 ?_) | (guard_target =~ Go.Eng.Ask _ _; first | refine K1 ?_) | (guard_target =~ All' _ _; first | (refine Y2 fun y he he' hy => ?_; (try dsimp only at he he' hy)) | (refine Y1 fun y he hy => ?_; (try with_reducible conv at he => (rhs; whnf)); (try dsimp only at he hy)) | (refine All'.mk ?_; intro y hy)) | refine F4 (fun h => ?_) fun h => ?_ | refine R1 ?_ | refine Q1 ?_ | fail)); all_goals (conv => whnf))
    refine Ask.mk (by simp only [str_size, List.length_cons, List.length_nil]; omega) ?_
    ((repeat' ((conv => whnf) <;> first | exact True.intro | (guard_target =~ Fork _ _ _; first | refine F1 ?_ | refine F2 ?_ | refine F3 (fun h => ?_) fun h => ?_) | (guard_target =~ Ar _ _ _; first | refine A1 ?_ | refine A2 ?_ | refine A3 ?_) | (guard_target =~ AskL _ _; first | refine L1 ?_) | (guard_target =~ Go.Eng.Ask _ _; first | refine K1 ?_) | (guard_target =~ All' _ _; first | (refine Y2 fun y he he' hy => ?_; (try dsimp only at he he' hy)) | (refine Y1 fun y he hy => ?_; (try with_reducible conv at he => (rhs; whnf)); (try dsimp only at he hy)) | (refine All'.mk ?_; intro y hy)) | refine F4 (fun h => ?_) fun h => ?_ | refine R1 ?_ | refine Q1 ?_ | fail)); all_goals (conv => whnf))
    refine Some'.mk ⟨m / 10, (48 + ((m % 10 : Nat) : Int)) :: r⟩ ?_
    ((repeat' ((conv => whnf) <;> first | exact True.intro | (guard_target =~ Fork _ _ _; first | refine F1 ?_ | refine F2 ?_ | refine F3 (fun h => ?_) fun h => ?_) | (guard_target =~ Ar _ _ _; first | refine A1 ?_ | refine A2 ?_ | refine A3 ?_) | (guard_target =~ Go.Eng.Ask _ _; first | refine K1 ?_) | (guard_target =~ All' _ _; first | (refine Y2 fun y he he' hy => ?_; (try dsimp only at he he' hy)) | (refine Y1 fun y he hy => ?_; (try with_reducible conv at he => (rhs; whnf)); (try dsimp only at he hy)) | (refine All'.mk ?_; intro y hy)) | refine F4 (fun h => ?_) fun h => ?_ | refine R1 ?_ | refine Q1 ?_ | fail)); all_goals (conv => whnf))
    refine AskL.mk ?_ ?_
    · simp only [conj, str_cat, htm, htd, hw]
      (repeat' apply And.intro) <;> first | rfl | trivial
    ((repeat' ((conv => whnf) <;> first | exact True.intro | (guard_target =~ Fork _ _ _; first | refine F1 ?_ | refine F2 ?_ | refine F3 (fun h => ?_) fun h => ?_) | (guard_target =~ Ar _ _ _; first | refine A1 ?_ | refine A2 ?_ | refine A3 ?_) | (guard_target =~ AskL _ _; first | refine L1 ?_) | (guard_target =~ Go.Eng.Ask _ _; first | refine K1 ?_) | (guard_target =~ All' _ _; first | (refine Y2 fun y he he' hy => ?_; (try dsimp only at he he' hy)) | (refine Y1 fun y he hy => ?_; (try with_reducible conv at he => (rhs; whnf)); (try dsimp only at he hy)) | (refine All'.mk ?_; intro y hy)) | refine F4 (fun h => ?_) fun h => ?_ | refine R1 ?_ | refine Q1 ?_ | fail)); all_goals (conv => whnf))
    refine Ask.mk ⟨by show decL (m / 10) ++ _ :: r = _; rw [← hm, e, List.append_assoc]; rfl, by dsimp only; omega⟩ ?_
    exact G1

/-! ### Digits read -/
def isD (c : Int) : Bool := decide (48 ≤ c ∧ c ≤ 57)
def numV (l : List Int) : Int := l.foldl (fun n c => n * 10 + (c - 48)) 0
theorem numV_snoc (l : List Int) (c : Int) : numV (l ++ [c]) = numV l * 10 + (c - 48) := by simp [numV]
def numOk (l : List Int) : Bool := decide (1 ≤ l.length ∧ l.length ≤ 18 ∧ ¬ (1 < l.length ∧ l[0]? = some 48)) && l.all isD
theorem numV_rng : ∀ (k : Nat) (l : List Int), l.length = k → l.all isD = true → 0 ≤ numV l ∧ numV l < 10 ^ k
  | 0, [], _, _ => by simp [numV]
  | k + 1, l, h, ha => by
    have hne : l ≠ [] := fun e => by rw [e] at h; simp at h
    have e := List.dropLast_concat_getLast hne
    rw [← e] at ha ⊢
    rw [List.all_append, Bool.and_eq_true] at ha
    have := numV_rng k l.dropLast (by rw [List.length_dropLast]; omega) ha.1
    have hc : isD (l.getLast hne) = true := by simpa using ha.2
    unfold isD at hc
    have hc := of_decide_eq_true hc
    rw [numV_snoc, Int.pow_succ]
    omega
  | 0, _ :: _, h, _ => by simp at h
@[reducible] def numberC : Ctr := {
  X := ByteArray
  Y := Unit
  args := fun s => [.v (.string s)]
  rw := fun _ => []
  side := fun s => s.size ≤ 100000000000
  val := fun _ => ()
  ens := fun _ _ => True
  res := fun s _ => .tuple [.v (.int .i64 (if numOk (bytesL s) then numV (bytesL s) else 0)), .v (.bool (numOk (bytesL s)))]
  out := fun _ _ => [] }
@[reducible] def numberL (s : ByteArray) : LA := {
  X := Nat
  pre := fun i => i ≤ s.size ∧ ((bytesL s).take i).all isD = true
  mu := fun i => s.size - i
  T := fun i => [(0, .v (.string s)), (4, .v (.int .i64 (numV ((bytesL s).take i)))), (5, .v (.int .i64 (i : Nat)))]
  M := fun _ => [] }
theorem num_not {l : List Int} (h : ¬ (1 ≤ l.length ∧ l.length ≤ 18 ∧ ¬ (1 < l.length ∧ l[0]? = some 48))) : numOk l = false := by
  unfold numOk; rw [decide_eq_false h, Bool.false_and]
theorem num_not2 {l : List Int} {i : Nat} {c : Int} (h : l[i]? = some c) (hc : isD c = false) : numOk l = false := by
  unfold numOk
  have : l.all isD = false := List.all_eq_false.2 ⟨c, List.mem_of_getElem? h, by simp [hc]⟩
  rw [this, Bool.and_false]
theorem pow_le18 {i : Nat} (h : i ≤ 17) : (10 : Int) ^ i ≤ 100000000000000000 := by
  have : (10 : Nat) ^ i ≤ 10 ^ 17 := Nat.pow_le_pow_right (by omega) h
  have e : ((10 ^ i : Nat) : Int) = (10 : Int) ^ i := by norm_cast
  omega
theorem number_ok : numberC.ok Tryd.prog 30 := by
  refine ok_of_vc (An := fun (s : ByteArray) => anOf [(0, .loop (numberL s))]) (known_nil _) mo Tryd.func30 (by kernel_rfl) (by kernel_rfl) (fun _ _ => trivial) (fun (s : ByteArray) hs => ?_)
  have hs : s.size ≤ 100000000000 := hs
  have hbl := bytesL_length s
  by_cases hg : 1 ≤ (bytesL s).length ∧ (bytesL s).length ≤ 18 ∧ ¬ (1 < (bytesL s).length ∧ (bytesL s)[0]? = some 48)
  · rw [hbl] at hg
    have hb0 := byteAt_some (s := s) (i := 0) (by omega)
    rw [hb0] at hg
    have hg' : ¬ (1 < s.size ∧ byteAt s (Int.toNat 0) = 48) := fun hh => hg.2.2 ⟨hh.1, congrArg some hh.2⟩
    obtain ⟨hg1, hg2, -⟩ := hg
    ((repeat' ((conv => whnf) <;> first | exact True.intro | (guard_target =~ Fork _ _ _; first | refine F1 ?_ | refine F2 ?_ | refine F3 (fun h => ?_) fun h => ?_) | (guard_target =~ Ar _ _ _; first | refine A1 ?_ | refine A2 ?_ | refine A3 ?_) | (guard_target =~ AskL _ _; first | refine L1 ?_) | (guard_target =~ Go.Eng.Ask _ _; first | refine K1 ?_) | (guard_target =~ All' _ _; first | (refine Y2 fun y he he' hy => ?_; (try dsimp only at he he' hy)) | (refine Y1 fun y he hy => ?_; (try with_reducible conv at he => (rhs; whnf)); (try dsimp only at he hy)) | (refine All'.mk ?_; intro y hy)) | refine F4 (fun h => ?_) fun h => ?_ | refine R1 ?_ | refine Q1 ?_ | fail)); all_goals (conv => whnf))
    all_goals
      refine Some'.mk (0 : Nat) ?_
      ((repeat' ((conv => whnf) <;> first | exact True.intro | (guard_target =~ Fork _ _ _; first | refine F1 ?_ | refine F2 ?_ | refine F3 (fun h => ?_) fun h => ?_) | (guard_target =~ Ar _ _ _; first | refine A1 ?_ | refine A2 ?_ | refine A3 ?_) | (guard_target =~ AskL _ _; first | refine L1 ?_) | (guard_target =~ Go.Eng.Ask _ _; first | refine K1 ?_) | (guard_target =~ All' _ _; first | (refine Y2 fun y he he' hy => ?_; (try dsimp only at he he' hy)) | (refine Y1 fun y he hy => ?_; (try with_reducible conv at he => (rhs; whnf)); (try dsimp only at he hy)) | (refine All'.mk ?_; intro y hy)) | refine F4 (fun h => ?_) fun h => ?_ | refine R1 ?_ | refine Q1 ?_ | fail)); all_goals (conv => whnf))
      refine Ask.mk ⟨Nat.zero_le _, rfl⟩ ?_
      ((repeat' ((conv => whnf) <;> first | exact True.intro | (guard_target =~ Fork _ _ _; first | refine F1 ?_ | refine F2 ?_ | refine F3 (fun h => ?_) fun h => ?_) | (guard_target =~ Ar _ _ _; first | refine A1 ?_ | refine A2 ?_ | refine A3 ?_) | (guard_target =~ AskL _ _; first | refine L1 ?_) | (guard_target =~ Go.Eng.Ask _ _; first | refine K1 ?_) | (guard_target =~ All' _ _; first | (refine Y2 fun y he he' hy => ?_; (try dsimp only at he he' hy)) | (refine Y1 fun y he hy => ?_; (try with_reducible conv at he => (rhs; whnf)); (try dsimp only at he hy)) | (refine All'.mk ?_; intro y hy)) | refine F4 (fun h => ?_) fun h => ?_ | refine R1 ?_ | refine Q1 ?_ | fail)); all_goals (conv => whnf))
      refine AllI.mk ?_
      rintro (i : Nat) ⟨hi, hal⟩
      have hi : i ≤ s.size := hi
      have hal : ((bytesL s).take i).all isD = true := hal
      by_cases e : i = s.size
      · subst e
        have ht : (bytesL s).take s.size = bytesL s := by rw [← hbl]; exact List.take_length
        rw [ht] at hal
        have hok : numOk (bytesL s) = true := by
          unfold numOk
          rw [hal, Bool.and_true]
          refine decide_eq_true ⟨by omega, by omega, fun hh => hg' ⟨by omega, ?_⟩⟩
          have := hh.2
          rw [hb0] at this
          exact Option.some.inj this
        exact G1
      · have hc := byteAt_some (s := s) (i := i) (by omega)
        obtain ⟨c0, c1⟩ := byteAt_rng s i
        have hbi : byteAt s ((i : Nat) : Int).toNat = byteAt s i := rfl
        have hr := numV_rng i ((bytesL s).take i) (by rw [List.length_take]; omega) hal
        have hp := pow_le18 (i := i) (by omega)
        have ht := take_get hc
        by_cases hd : isD (byteAt s i) = true
        · have hd' : 48 ≤ byteAt s i ∧ byteAt s i ≤ 57 := of_decide_eq_true hd
          have hal' : ((bytesL s).take (i + 1)).all isD = true := by rw [ht, List.all_append, hal]; simpa using hd
          have hv := numV_snoc ((bytesL s).take i) (byteAt s i)
          rw [← ht] at hv
          have hw : IntKind.i64.wrap (byteAt s ((i : Nat) : Int).toNat - 48) = byteAt s i - 48 := wrap_i64 (by omega) (by omega)
          have lm := hw
          ((repeat' ((conv => whnf) <;> first | exact True.intro | (guard_target =~ Fork _ _ _; first | refine F1 ?_ | refine F2 ?_ | refine F3 (fun h => ?_) fun h => ?_) | (guard_target =~ Ar _ _ _; first | refine A1 ?_ | refine A2 ?_ | refine A3 ?_) | (guard_target =~ AskL _ _; first | refine L1 ?_) | (guard_target =~ Go.Eng.Ask _ _; first | refine K1 ?_) | (guard_target =~ All' _ _; first | (refine Y2 fun y he he' hy => ?_; (try dsimp only at he he' hy)) | (refine Y1 fun y he hy => ?_; (try with_reducible conv at he => (rhs; whnf)); (try dsimp only at he hy)) | (refine All'.mk ?_; intro y hy)) | refine F4 (fun h => ?_) fun h => ?_ | refine R1 ?_ | refine Q1 ?_ | fail)); all_goals (conv => whnf))
          refine Some'.mk (i + 1) ?_
          ((repeat' ((conv => whnf) <;> first | exact True.intro | (guard_target =~ Fork _ _ _; first | refine F1 ?_ | refine F2 ?_ | refine F3 (fun h => ?_) fun h => ?_) | (guard_target =~ Ar _ _ _; first | refine A1 ?_ | refine A2 ?_ | refine A3 ?_) | (guard_target =~ AskL _ _; first | refine L1 ?_) | (guard_target =~ Go.Eng.Ask _ _; first | refine K1 ?_) | (guard_target =~ All' _ _; first | (refine Y2 fun y he he' hy => ?_; (try dsimp only at he he' hy)) | (refine Y1 fun y he hy => ?_; (try with_reducible conv at he => (rhs; whnf)); (try dsimp only at he hy)) | (refine All'.mk ?_; intro y hy)) | refine F4 (fun h => ?_) fun h => ?_ | refine R1 ?_ | refine Q1 ?_ | fail)); all_goals (conv => whnf))
          refine Ask.mk ⟨by dsimp only; omega, hal'⟩ ?_
          exact G1
        · have hf : isD (byteAt s i) = false := by simpa using hd
          have hd' : ¬ (48 ≤ byteAt s i ∧ byteAt s i ≤ 57) := of_decide_eq_false hf
          have hno := num_not2 hc hf
          exact G1
  · have hno := num_not hg
    ((repeat' ((conv => whnf) <;> first | exact True.intro | (guard_target =~ Fork _ _ _; first | refine F1 ?_ | refine F2 ?_ | refine F3 (fun h => ?_) fun h => ?_) | (guard_target =~ Ar _ _ _; first | refine A1 ?_ | refine A2 ?_ | refine A3 ?_) | (guard_target =~ AskL _ _; first | refine L1 ?_) | (guard_target =~ Go.Eng.Ask _ _; first | refine K1 ?_) | (guard_target =~ All' _ _; first | (refine Y2 fun y he he' hy => ?_; (try dsimp only at he he' hy)) | (refine Y1 fun y he hy => ?_; (try with_reducible conv at he => (rhs; whnf)); (try dsimp only at he hy)) | (refine All'.mk ?_; intro y hy)) | refine F4 (fun h => ?_) fun h => ?_ | refine R1 ?_ | refine Q1 ?_ | fail)); all_goals (conv => whnf))
    exfalso
    refine hg ⟨by omega, by omega, fun hh => ?_⟩
    have h0 := byteAt_some (s := s) (i := 0) (by omega)
    rw [h0] at hh
    have h2 : byteAt s (Int.toNat 0) = 48 := Option.some.inj hh.2
    omega
end Go.Proofs.YtghejeecanohoaaDoor

/-! Texts cut at a byte. -/
set_option linter.unusedVariables false
set_option linter.unusedSimpArgs false
set_option maxRecDepth 100000
set_option maxHeartbeats 4000000
namespace Go.Proofs.YtghejeecanohoaaDoor
open Go.Eng

/-- A list cut at each c. -/
def splitL (c : Int) : List Int → List (List Int)
  | [] => [[]]
  | b :: l => if b = c then [] :: splitL c l else match splitL c l with
    | [] => [[b]]
    | w :: ws => (b :: w) :: ws
theorem splitL_ne (c : Int) : ∀ l, splitL c l ≠ []
  | [] => by simp [splitL]
  | b :: l => by
    unfold splitL
    split
    · simp
    · split <;> simp
theorem splitL_len (c : Int) (l : List Int) : 0 < (splitL c l).length := List.length_pos_iff.2 (splitL_ne c l)
theorem splitL_le (c : Int) : ∀ l, (splitL c l).length ≤ l.length + 1
  | [] => by simp [splitL]
  | b :: l => by
    have := splitL_le c l
    unfold splitL
    split
    · simp only [List.length_cons]; omega
    · split
      · simp
      · rename_i h; rw [h] at this; simp only [List.length_cons] at this ⊢; omega
theorem splitL_mem (c : Int) : ∀ (l w : List Int), w ∈ splitL c l → w.length ≤ l.length ∧ ∀ x, x ∈ w → x ∈ l ∧ x ≠ c
  | [], w, h => by
    obtain rfl : w = [] := by simpa [splitL] using h
    exact ⟨Nat.le_refl _, fun x hx => by cases hx⟩
  | b :: l, w, h => by
    unfold splitL at h
    split at h
    · rcases List.mem_cons.1 h with rfl | h
      · exact ⟨Nat.zero_le _, fun x hx => by cases hx⟩
      · obtain ⟨h1, h2⟩ := splitL_mem c l w h
        exact ⟨by simp only [List.length_cons]; omega, fun x hx => ⟨List.mem_cons_of_mem _ (h2 x hx).1, (h2 x hx).2⟩⟩
    · rename_i hb
      split at h
      · rename_i he; exact absurd he (splitL_ne c l)
      · rename_i v vs he
        have ih := splitL_mem c l
        rw [he] at ih
        rcases List.mem_cons.1 h with rfl | h
        · obtain ⟨h1, h2⟩ := ih v (List.mem_cons_self ..)
          refine ⟨by simp only [List.length_cons]; omega, fun x hx => ?_⟩
          rcases List.mem_cons.1 hx with rfl | hx
          · exact ⟨List.mem_cons_self .., hb⟩
          · exact ⟨List.mem_cons_of_mem _ (h2 x hx).1, (h2 x hx).2⟩
        · obtain ⟨h1, h2⟩ := ih w (List.mem_cons_of_mem _ h)
          exact ⟨by simp only [List.length_cons]; omega, fun x hx => ⟨List.mem_cons_of_mem _ (h2 x hx).1, (h2 x hx).2⟩⟩
theorem splitL_cons_ne {c b : Int} {l w : List Int} {ws : List (List Int)} (hb : ¬ b = c) (h : splitL c l = w :: ws) : splitL c (b :: l) = (b :: w) :: ws := by
  rw [splitL, if_neg hb, h]
theorem splitL_free {c : Int} : ∀ {l : List Int}, c ∉ l → splitL c l = [l]
  | [], _ => rfl
  | b :: l, h => by
    have h1 : ¬ b = c := fun e => h (by rw [e]; exact List.mem_cons_self ..)
    exact splitL_cons_ne h1 (splitL_free (fun hc => h (List.mem_cons_of_mem _ hc)))
theorem splitL_sep (c : Int) : ∀ l, splitL c (l ++ [c]) = splitL c l ++ [[]]
  | [] => by simp [splitL]
  | b :: l => by
    have ih := splitL_sep c l
    by_cases hb : b = c
    · simp only [List.cons_append, splitL, if_pos hb, ih]
    · cases h : splitL c l with
      | nil => exact absurd h (splitL_ne c l)
      | cons w ws =>
        rw [h] at ih
        rw [List.cons_append, splitL_cons_ne hb h, splitL_cons_ne hb (ws := ws ++ [[]]) ih]
        rfl
theorem splitL_snoc {c x : Int} (hx : ¬ x = c) : ∀ (l : List Int) (w : List Int), (splitL c l)[(splitL c l).length - 1]? = some w → splitL c (l ++ [x]) = (splitL c l).set ((splitL c l).length - 1) (w ++ [x])
  | [], w, h => by
    obtain rfl : [] = w := by simpa [splitL] using h
    simp [splitL, hx]
  | b :: l, w, h => by
    by_cases hb : b = c
    · have e : splitL c (b :: l) = [] :: splitL c l := by rw [splitL, if_pos hb]
      have hp := splitL_len c l
      rw [e] at h ⊢
      rw [List.length_cons] at h ⊢
      obtain ⟨k, hk⟩ : ∃ k, (splitL c l).length = k + 1 := ⟨_, (Nat.succ_pred_eq_of_pos hp).symm⟩
      rw [hk] at h ⊢
      have ih := splitL_snoc hx l w (by rw [hk]; simpa using h)
      rw [hk] at ih
      rw [List.cons_append, splitL, if_pos hb, ih]
      rfl
    · cases hl : splitL c l with
      | nil => exact absurd hl (splitL_ne c l)
      | cons v ws =>
        have e := splitL_cons_ne hb hl
        rw [e] at h ⊢
        cases ws with
        | nil =>
          obtain rfl : b :: v = w := by simpa using h
          have ih := splitL_snoc hx l v (by rw [hl]; rfl)
          rw [hl] at ih
          rw [List.cons_append, splitL_cons_ne hb (w := v ++ [x]) (ws := []) (by rw [ih]; rfl)]
          rfl
        | cons u us =>
          have ih := splitL_snoc hx l w (by rw [hl]; simpa using h)
          rw [hl] at ih
          have ih' : splitL c (l ++ [x]) = v :: (u :: us).set us.length (w ++ [x]) := by rw [ih]; rfl
          rw [List.cons_append, splitL_cons_ne hb ih']
          rfl

structure SplX where
  s : ByteArray
  c : Int
@[reducible] def rSplitC : Ctr := {
  X := SplX
  Y := Unit
  args := fun x => [.v (.string x.s), .v (.int .u8 x.c)]
  rw := fun _ => []
  side := fun x => x.s.size ≤ 100000000000
  val := fun _ => ()
  ens := fun _ _ => True
  res := fun x _ => .ro false .str ((splitL x.c (bytesL x.s)).map strOfNums)
  out := fun _ _ => [] }
structure SplS where
  b : Bool
  i : Nat
@[reducible] def rSplitL (x : SplX) : LA := {
  X := SplS
  pre := fun s => s.i ≤ x.s.size ∧ (s.b = true ↔ x.c ∈ (bytesL x.s).take s.i)
  mu := fun s => x.s.size - s.i
  T := fun s => [(0, .v (.string x.s)), (1, .v (.int .u8 x.c)), (5, match s.b with | true => .sl 2 | false => .slc 2 0 1 1), (6, .v (.int .i64 (s.i : Nat)))]
  M := fun s => [(2, match s.b with | true => .row 9 .str ((splitL x.c ((bytesL x.s).take s.i)).map strOfNums) | false => .cells 9 [.v (.string (strOfNums ((bytesL x.s).take s.i)))])] }
theorem extract_at {s : ByteArray} {i : Nat} (h : i < s.size) : s.extract i (i + 1) = strOfNums [byteAt s i] := by
  apply bytes_inj
  obtain ⟨c0, c1⟩ := byteAt_rng s i
  rw [bytes_str (okB_cons ⟨c0, c1⟩ (fun _ h => by cases h))]
  have h' : i < s.data.toList.length := h
  have e : (s.extract i (i + 1)).data.toList = [s.data.toList[i]] := by
    simp only [ByteArray.data_extract, Array.toList_extract, List.extract_eq_take_drop]
    rw [show i + 1 - i = 1 by omega, List.drop_eq_getElem_cons h']; rfl
  have hc := byteAt_some h
  unfold bytesL at hc ⊢
  rw [e]
  rw [List.getElem?_map, List.getElem?_eq_getElem h'] at hc
  simpa using hc
theorem rSplit_ok : rSplitC.ok Tryd.prog 29 := by
  refine ok_of_vc (An := fun (x : SplX) => anOf [(0, .loop (rSplitL x))]) (known_nil _) mo Tryd.func29 (by kernel_rfl) (by kernel_rfl) (fun _ _ => trivial) (fun x hs => ?_)
  obtain ⟨s, c⟩ := x
  have hs : s.size ≤ 100000000000 := hs
  have hbl := bytesL_length s
  ((repeat' ((conv => whnf) <;> first | exact True.intro | (guard_target =~ Fork _ _ _; first | refine F1 ?_ | refine F2 ?_ | refine F3 (fun h => ?_) fun h => ?_) | (guard_target =~ Ar _ _ _; first | refine A1 ?_ | refine A2 ?_ | refine A3 ?_) | (guard_target =~ AskL _ _; first | refine L1 ?_) | (guard_target =~ Go.Eng.Ask _ _; first | refine K1 ?_) | (guard_target =~ All' _ _; first | (refine Y2 fun y he he' hy => ?_; (try dsimp only at he he' hy)) | (refine Y1 fun y he hy => ?_; (try with_reducible conv at he => (rhs; whnf)); (try dsimp only at he hy)) | (refine All'.mk ?_; intro y hy)) | refine F4 (fun h => ?_) fun h => ?_ | refine R1 ?_ | refine Q1 ?_ | fail)); all_goals (conv => whnf))
  refine Some'.mk ⟨false, 0⟩ ?_
  ((repeat' ((conv => whnf) <;> first | exact True.intro | (guard_target =~ Fork _ _ _; first | refine F1 ?_ | refine F2 ?_ | refine F3 (fun h => ?_) fun h => ?_) | (guard_target =~ Ar _ _ _; first | refine A1 ?_ | refine A2 ?_ | refine A3 ?_) | (guard_target =~ AskL _ _; first | refine L1 ?_) | (guard_target =~ Go.Eng.Ask _ _; first | refine K1 ?_) | (guard_target =~ All' _ _; first | (refine Y2 fun y he he' hy => ?_; (try dsimp only at he he' hy)) | (refine Y1 fun y he hy => ?_; (try with_reducible conv at he => (rhs; whnf)); (try dsimp only at he hy)) | (refine All'.mk ?_; intro y hy)) | refine F4 (fun h => ?_) fun h => ?_ | refine R1 ?_ | refine Q1 ?_ | fail)); all_goals (conv => whnf))
  refine Ask.mk ⟨Nat.zero_le _, by simp⟩ ?_
  ((repeat' ((conv => whnf) <;> first | exact True.intro | (guard_target =~ Fork _ _ _; first | refine F1 ?_ | refine F2 ?_ | refine F3 (fun h => ?_) fun h => ?_) | (guard_target =~ Ar _ _ _; first | refine A1 ?_ | refine A2 ?_ | refine A3 ?_) | (guard_target =~ AskL _ _; first | refine L1 ?_) | (guard_target =~ Go.Eng.Ask _ _; first | refine K1 ?_) | (guard_target =~ All' _ _; first | (refine Y2 fun y he he' hy => ?_; (try dsimp only at he he' hy)) | (refine Y1 fun y he hy => ?_; (try with_reducible conv at he => (rhs; whnf)); (try dsimp only at he hy)) | (refine All'.mk ?_; intro y hy)) | refine F4 (fun h => ?_) fun h => ?_ | refine R1 ?_ | refine Q1 ?_ | fail)); all_goals (conv => whnf))
  refine AllI.mk ?_
  rintro ⟨b, i⟩ ⟨hi, hmem⟩
  have hi : i ≤ s.size := hi
  have hmem : b = true ↔ c ∈ (bytesL s).take i := hmem
  by_cases e : i = s.size
  · subst e
    have ht : (bytesL s).take s.size = bytesL s := by rw [← hbl]; exact List.take_length
    cases b with
    | true =>
      exact G1
    | false =>
      have hfree : c ∉ bytesL s := fun hc => by
        rw [ht] at hmem
        exact absurd (hmem.2 hc) (by decide)
      have hsp := splitL_free hfree
      ((repeat' ((conv => whnf) <;> first | exact True.intro | (guard_target =~ Fork _ _ _; first | refine F1 ?_ | refine F2 ?_ | refine F3 (fun h => ?_) fun h => ?_) | (guard_target =~ Ar _ _ _; first | refine A1 ?_ | refine A2 ?_ | refine A3 ?_) | (guard_target =~ AskL _ _; first | refine L1 ?_) | (guard_target =~ Go.Eng.Ask _ _; first | refine K1 ?_) | (guard_target =~ All' _ _; first | (refine Y2 fun y he he' hy => ?_; (try dsimp only at he he' hy)) | (refine Y1 fun y he hy => ?_; (try with_reducible conv at he => (rhs; whnf)); (try dsimp only at he hy)) | (refine All'.mk ?_; intro y hy)) | refine F4 (fun h => ?_) fun h => ?_ | refine R1 ?_ | refine Q1 ?_ | fail)); all_goals (conv => whnf))
      rw [hsp]
      exact G1
  · have hc := byteAt_some (s := s) (i := i) (by omega)
    have hbi : byteAt s ((i : Nat) : Int).toNat = byteAt s i := rfl
    have ht := take_get hc
    have hle := splitL_le c ((bytesL s).take i)
    have hpos := splitL_len c ((bytesL s).take i)
    have hti : ((bytesL s).take i).length ≤ s.size := by rw [List.length_take]; omega
    have hml : (((splitL c ((bytesL s).take i)).map strOfNums).length : Int) = (splitL c ((bytesL s).take i)).length := by rw [List.length_map]
    have hx := extract_at (s := s) (i := i) (by omega)
    have hx' : s.extract ((i : Nat) : Int).toNat (((i : Nat) : Int) + 1).toNat = strOfNums [byteAt s i] := by rw [← hx]; rfl
    cases b with
    | true =>
      have hin := hmem.1 rfl
      ((repeat' ((conv => whnf) <;> first | exact True.intro | (guard_target =~ Fork _ _ _; first | refine F1 ?_ | refine F2 ?_ | refine F3 (fun h => ?_) fun h => ?_) | (guard_target =~ Ar _ _ _; first | refine A1 ?_ | refine A2 ?_ | refine A3 ?_) | (guard_target =~ AskL _ _; first | refine L1 ?_) | (guard_target =~ Go.Eng.Ask _ _; first | refine K1 ?_) | (guard_target =~ All' _ _; first | (refine Y2 fun y he he' hy => ?_; (try dsimp only at he he' hy)) | (refine Y1 fun y he hy => ?_; (try with_reducible conv at he => (rhs; whnf)); (try dsimp only at he hy))) | refine F4 (fun h => ?_) fun h => ?_ | refine R1 ?_ | refine Q1 ?_ | fail)); all_goals (conv => whnf))
      · refine Some'.mk ⟨true, i + 1⟩ ?_
        ((repeat' ((conv => whnf) <;> first | exact True.intro | (guard_target =~ Fork _ _ _; first | refine F1 ?_ | refine F2 ?_ | refine F3 (fun h => ?_) fun h => ?_) | (guard_target =~ Ar _ _ _; first | refine A1 ?_ | refine A2 ?_ | refine A3 ?_) | (guard_target =~ Go.Eng.Ask _ _; first | refine K1 ?_) | (guard_target =~ All' _ _; first | (refine Y2 fun y he he' hy => ?_; (try dsimp only at he he' hy)) | (refine Y1 fun y he hy => ?_; (try with_reducible conv at he => (rhs; whnf)); (try dsimp only at he hy)) | (refine All'.mk ?_; intro y hy)) | refine F4 (fun h => ?_) fun h => ?_ | refine R1 ?_ | refine Q1 ?_ | fail)); all_goals (conv => whnf))
        have hc' : byteAt s i = c := h
        refine AskL.mk ?_ ?_
        · simp only [conj]
          rw [ht, hc', splitL_sep, List.map_append]
          (repeat' apply And.intro) <;> first | rfl | trivial | omega
        ((repeat' ((conv => whnf) <;> first | exact True.intro | (guard_target =~ Fork _ _ _; first | refine F1 ?_ | refine F2 ?_ | refine F3 (fun h => ?_) fun h => ?_) | (guard_target =~ Ar _ _ _; first | refine A1 ?_ | refine A2 ?_ | refine A3 ?_) | (guard_target =~ AskL _ _; first | refine L1 ?_) | (guard_target =~ Go.Eng.Ask _ _; first | refine K1 ?_) | (guard_target =~ All' _ _; first | (refine Y2 fun y he he' hy => ?_; (try dsimp only at he he' hy)) | (refine Y1 fun y he hy => ?_; (try with_reducible conv at he => (rhs; whnf)); (try dsimp only at he hy)) | (refine All'.mk ?_; intro y hy)) | refine F4 (fun h => ?_) fun h => ?_ | refine R1 ?_ | refine Q1 ?_ | fail)); all_goals (conv => whnf))
        refine Ask.mk ⟨by dsimp only; omega, fun _ => ?_, fun _ => rfl⟩ ?_
        · show c ∈ (bytesL s).take (i + 1)
          rw [ht]; exact List.mem_append_left _ hin
        exact G1
      · refine All'.mk ?_; rintro (y : ByteArray) hy
        have hy : ((splitL c ((bytesL s).take i)).map strOfNums)[(splitL c ((bytesL s).take i)).length - 1]? = some y := by
          rw [← hy]; congr 1
          show _ = ((((splitL c ((bytesL s).take i)).map strOfNums).length : Int) - 1).toNat
          rw [List.length_map]; omega
        obtain ⟨w, hw, rfl⟩ : ∃ w, (splitL c ((bytesL s).take i))[(splitL c ((bytesL s).take i)).length - 1]? = some w ∧ strOfNums w = y := by
          rw [List.getElem?_map] at hy
          obtain ⟨w, h1, h2⟩ := Option.map_eq_some_iff.1 hy
          exact ⟨w, h1, h2⟩
        have hwl := (splitL_mem c _ w (List.mem_of_getElem? hw)).1
        ((repeat' ((conv => whnf) <;> first | exact True.intro | (guard_target =~ Fork _ _ _; first | refine F1 ?_ | refine F2 ?_ | refine F3 (fun h => ?_) fun h => ?_) | (guard_target =~ Ar _ _ _; first | refine A1 ?_ | refine A2 ?_ | refine A3 ?_) | (guard_target =~ AskL _ _; first | refine L1 ?_) | (guard_target =~ Go.Eng.Ask _ _; first | refine K1 ?_) | (guard_target =~ All' _ _; first | (refine Y2 fun y he he' hy => ?_; (try dsimp only at he he' hy)) | (refine Y1 fun y he hy => ?_; (try with_reducible conv at he => (rhs; whnf)); (try dsimp only at he hy)) | (refine All'.mk ?_; intro y hy)) | refine F4 (fun h => ?_) fun h => ?_ | refine R1 ?_ | refine Q1 ?_ | fail)); all_goals (conv => whnf))
        refine Ask.mk ?_ ?_
        · rw [hx']; simp only [str_size, List.length_cons, List.length_nil]; omega
        ((repeat' ((conv => whnf) <;> first | exact True.intro | (guard_target =~ Fork _ _ _; first | refine F1 ?_ | refine F2 ?_ | refine F3 (fun h => ?_) fun h => ?_) | (guard_target =~ Ar _ _ _; first | refine A1 ?_ | refine A2 ?_ | refine A3 ?_) | (guard_target =~ AskL _ _; first | refine L1 ?_) | (guard_target =~ Go.Eng.Ask _ _; first | refine K1 ?_) | (guard_target =~ All' _ _; first | (refine Y2 fun y he he' hy => ?_; (try dsimp only at he he' hy)) | (refine Y1 fun y he hy => ?_; (try with_reducible conv at he => (rhs; whnf)); (try dsimp only at he hy)) | (refine All'.mk ?_; intro y hy)) | refine F4 (fun h => ?_) fun h => ?_ | refine R1 ?_ | refine Q1 ?_ | fail)); all_goals (conv => whnf))
        refine Some'.mk (strOfNums (w ++ [byteAt s i])) ?_
        have hcat : strOfNums w ++ s.extract ((i : Nat) : Int).toNat (((i : Nat) : Int) + 1).toNat = strOfNums (w ++ [byteAt s i]) := by rw [hx', str_cat]
        refine Eqn.mk (by show some [SV.v (.string (strOfNums w ++ s.extract ((i : Nat) : Int).toNat (((i : Nat) : Int) + 1).toNat))] = _; rw [hcat]; rfl) ?_
        ((repeat' ((conv => whnf) <;> first | exact True.intro | (guard_target =~ Fork _ _ _; first | refine F1 ?_ | refine F2 ?_ | refine F3 (fun h => ?_) fun h => ?_) | (guard_target =~ Ar _ _ _; first | refine A1 ?_ | refine A2 ?_ | refine A3 ?_) | (guard_target =~ AskL _ _; first | refine L1 ?_) | (guard_target =~ Go.Eng.Ask _ _; first | refine K1 ?_) | (guard_target =~ All' _ _; first | (refine Y2 fun y he he' hy => ?_; (try dsimp only at he he' hy)) | (refine Y1 fun y he hy => ?_; (try with_reducible conv at he => (rhs; whnf)); (try dsimp only at he hy)) | (refine All'.mk ?_; intro y hy)) | refine F4 (fun h => ?_) fun h => ?_ | refine R1 ?_ | refine Q1 ?_ | fail)); all_goals (conv => whnf))
        refine Some'.mk ⟨true, i + 1⟩ ?_
        have hc' : ¬ byteAt s i = c := h
        have hsn := splitL_snoc hc' _ w hw
        ((repeat' ((conv => whnf) <;> first | exact True.intro | (guard_target =~ Fork _ _ _; first | refine F1 ?_ | refine F2 ?_ | refine F3 (fun h => ?_) fun h => ?_) | (guard_target =~ Ar _ _ _; first | refine A1 ?_ | refine A2 ?_ | refine A3 ?_) | (guard_target =~ Go.Eng.Ask _ _; first | refine K1 ?_) | (guard_target =~ All' _ _; first | (refine Y2 fun y he he' hy => ?_; (try dsimp only at he he' hy)) | (refine Y1 fun y he hy => ?_; (try with_reducible conv at he => (rhs; whnf)); (try dsimp only at he hy)) | (refine All'.mk ?_; intro y hy)) | refine F4 (fun h => ?_) fun h => ?_ | refine R1 ?_ | refine Q1 ?_ | fail)); all_goals (conv => whnf))
        refine AskL.mk ?_ ?_
        · have hrow : ((splitL c ((bytesL s).take i)).map strOfNums).set (((((splitL c ((bytesL s).take i)).map strOfNums).length : Nat) : Int) - 1).toNat (strOfNums (w ++ [byteAt s i])) = (splitL c ((bytesL s).take (i + 1))).map strOfNums := by
            rw [ht, hsn, List.map_set]
            congr 1
            rw [List.length_map]; omega
          exact ⟨⟨⟨rfl, rfl⟩, by show ((i : Nat) : Int) + 1 = ((i + 1 : Nat) : Int); omega⟩, congrArg (SV.ro true Ty.str) hrow⟩
        ((repeat' ((conv => whnf) <;> first | exact True.intro | (guard_target =~ Fork _ _ _; first | refine F1 ?_ | refine F2 ?_ | refine F3 (fun h => ?_) fun h => ?_) | (guard_target =~ Ar _ _ _; first | refine A1 ?_ | refine A2 ?_ | refine A3 ?_) | (guard_target =~ AskL _ _; first | refine L1 ?_) | (guard_target =~ Go.Eng.Ask _ _; first | refine K1 ?_) | (guard_target =~ All' _ _; first | (refine Y2 fun y he he' hy => ?_; (try dsimp only at he he' hy)) | (refine Y1 fun y he hy => ?_; (try with_reducible conv at he => (rhs; whnf)); (try dsimp only at he hy)) | (refine All'.mk ?_; intro y hy)) | refine F4 (fun h => ?_) fun h => ?_ | refine R1 ?_ | refine Q1 ?_ | fail)); all_goals (conv => whnf))
        refine Ask.mk ⟨by dsimp only; omega, fun _ => ?_, fun _ => rfl⟩ ?_
        · show c ∈ (bytesL s).take (i + 1)
          rw [ht]; exact List.mem_append_left _ hin
        exact G1
    | false =>
      have hfree : c ∉ (bytesL s).take i := fun hc => absurd (hmem.2 hc) (by decide)
      have hsp := splitL_free hfree
      ((repeat' ((conv => whnf) <;> first | exact True.intro | (guard_target =~ Fork _ _ _; first | refine F1 ?_ | refine F2 ?_ | refine F3 (fun h => ?_) fun h => ?_) | (guard_target =~ Ar _ _ _; first | refine A1 ?_ | refine A2 ?_ | refine A3 ?_) | (guard_target =~ AskL _ _; first | refine L1 ?_) | (guard_target =~ Go.Eng.Ask _ _; first | refine K1 ?_) | (guard_target =~ All' _ _; first | (refine Y2 fun y he he' hy => ?_; (try dsimp only at he he' hy)) | (refine Y1 fun y he hy => ?_; (try with_reducible conv at he => (rhs; whnf)); (try dsimp only at he hy)) | (refine All'.mk ?_; intro y hy)) | refine F4 (fun h => ?_) fun h => ?_ | refine R1 ?_ | refine Q1 ?_ | fail)); all_goals (conv => whnf))
      · refine Some'.mk ⟨true, i + 1⟩ ?_
        ((repeat' ((conv => whnf) <;> first | exact True.intro | (guard_target =~ Fork _ _ _; first | refine F1 ?_ | refine F2 ?_ | refine F3 (fun h => ?_) fun h => ?_) | (guard_target =~ Ar _ _ _; first | refine A1 ?_ | refine A2 ?_ | refine A3 ?_) | (guard_target =~ Go.Eng.Ask _ _; first | refine K1 ?_) | (guard_target =~ All' _ _; first | (refine Y2 fun y he he' hy => ?_; (try dsimp only at he he' hy)) | (refine Y1 fun y he hy => ?_; (try with_reducible conv at he => (rhs; whnf)); (try dsimp only at he hy)) | (refine All'.mk ?_; intro y hy)) | refine F4 (fun h => ?_) fun h => ?_ | refine R1 ?_ | refine Q1 ?_ | fail)); all_goals (conv => whnf))
        have hc' : byteAt s i = c := h
        refine AskL.mk ?_ ?_
        · simp only [conj]
          rw [ht, hc', splitL_sep, hsp]
          (repeat' apply And.intro) <;> first | rfl | trivial | omega
        ((repeat' ((conv => whnf) <;> first | exact True.intro | (guard_target =~ Fork _ _ _; first | refine F1 ?_ | refine F2 ?_ | refine F3 (fun h => ?_) fun h => ?_) | (guard_target =~ Ar _ _ _; first | refine A1 ?_ | refine A2 ?_ | refine A3 ?_) | (guard_target =~ AskL _ _; first | refine L1 ?_) | (guard_target =~ Go.Eng.Ask _ _; first | refine K1 ?_) | (guard_target =~ All' _ _; first | (refine Y2 fun y he he' hy => ?_; (try dsimp only at he he' hy)) | (refine Y1 fun y he hy => ?_; (try with_reducible conv at he => (rhs; whnf)); (try dsimp only at he hy)) | (refine All'.mk ?_; intro y hy)) | refine F4 (fun h => ?_) fun h => ?_ | refine R1 ?_ | refine Q1 ?_ | fail)); all_goals (conv => whnf))
        refine Ask.mk ⟨by dsimp only; omega, fun _ => ?_, fun _ => rfl⟩ ?_
        · show c ∈ (bytesL s).take (i + 1)
          rw [ht, hc']; exact List.mem_append_right _ (List.mem_cons_self ..)
        exact G1
      · rw [hx']
        refine Ask.mk ?_ ?_
        · simp only [str_size, List.length_cons, List.length_nil]; omega
        ((repeat' ((conv => whnf) <;> first | exact True.intro | (guard_target =~ Fork _ _ _; first | refine F1 ?_ | refine F2 ?_ | refine F3 (fun h => ?_) fun h => ?_) | (guard_target =~ Ar _ _ _; first | refine A1 ?_ | refine A2 ?_ | refine A3 ?_) | (guard_target =~ AskL _ _; first | refine L1 ?_) | (guard_target =~ Go.Eng.Ask _ _; first | refine K1 ?_) | (guard_target =~ All' _ _; first | (refine Y2 fun y he he' hy => ?_; (try dsimp only at he he' hy)) | (refine Y1 fun y he hy => ?_; (try with_reducible conv at he => (rhs; whnf)); (try dsimp only at he hy)) | (refine All'.mk ?_; intro y hy)) | refine F4 (fun h => ?_) fun h => ?_ | refine R1 ?_ | refine Q1 ?_ | fail)); all_goals (conv => whnf))
        refine Some'.mk ⟨false, i + 1⟩ ?_
        ((repeat' ((conv => whnf) <;> first | exact True.intro | (guard_target =~ Fork _ _ _; first | refine F1 ?_ | refine F2 ?_ | refine F3 (fun h => ?_) fun h => ?_) | (guard_target =~ Ar _ _ _; first | refine A1 ?_ | refine A2 ?_ | refine A3 ?_) | (guard_target =~ Go.Eng.Ask _ _; first | refine K1 ?_) | (guard_target =~ All' _ _; first | (refine Y2 fun y he he' hy => ?_; (try dsimp only at he he' hy)) | (refine Y1 fun y he hy => ?_; (try with_reducible conv at he => (rhs; whnf)); (try dsimp only at he hy)) | (refine All'.mk ?_; intro y hy)) | refine F4 (fun h => ?_) fun h => ?_ | refine R1 ?_ | refine Q1 ?_ | fail)); all_goals (conv => whnf))
        refine AskL.mk ?_ ?_
        · simp only [conj]
          rw [ht, str_cat]
          (repeat' apply And.intro) <;> first | rfl | trivial | omega
        ((repeat' ((conv => whnf) <;> first | exact True.intro | (guard_target =~ Fork _ _ _; first | refine F1 ?_ | refine F2 ?_ | refine F3 (fun h => ?_) fun h => ?_) | (guard_target =~ Ar _ _ _; first | refine A1 ?_ | refine A2 ?_ | refine A3 ?_) | (guard_target =~ AskL _ _; first | refine L1 ?_) | (guard_target =~ Go.Eng.Ask _ _; first | refine K1 ?_) | (guard_target =~ All' _ _; first | (refine Y2 fun y he he' hy => ?_; (try dsimp only at he he' hy)) | (refine Y1 fun y he hy => ?_; (try with_reducible conv at he => (rhs; whnf)); (try dsimp only at he hy)) | (refine All'.mk ?_; intro y hy)) | refine F4 (fun h => ?_) fun h => ?_ | refine R1 ?_ | refine Q1 ?_ | fail)); all_goals (conv => whnf))
        have hc' : ¬ byteAt s i = c := h
        refine Ask.mk ⟨by dsimp only; omega, fun hh => Bool.noConfusion hh, fun hh => ?_⟩ ?_
        · have hh : c ∈ (bytesL s).take (i + 1) := hh
          rw [ht] at hh
          rcases List.mem_append.1 hh with hh | hh
          · exact absurd hh hfree
          · exact absurd (List.mem_singleton.1 hh).symm hc'
        exact G1
end Go.Proofs.YtghejeecanohoaaDoor

/-! The library's cut of a text is the plain one. -/
set_option linter.unusedVariables false
set_option linter.unusedSimpArgs false
set_option maxRecDepth 100000
set_option maxHeartbeats 4000000
namespace Go.Proofs.YtghejeecanohoaaDoor
open Go.Eng

abbrev toI (l : List UInt8) : List Int := l.map fun b => (b.toNat : Int)
theorem toI_inj {b c : UInt8} : ((b.toNat : Int) = (c.toNat : Int)) ↔ b = c := ⟨fun h => UInt8.toNat_inj.1 (by omega), fun h => by rw [h]⟩
theorem splitK_L (c : UInt8) : ∀ l : List UInt8, (Lib.splitK [c] 0 (Lib.count l [c]) l).map toI = splitL (c.toNat : Int) (toI l)
  | [] => by
    rw [Lib.count_miss (by simp [Lib.index])]
    rfl
  | b :: l => by
    have ih := splitK_L c l
    by_cases h : b = c
    · subst h
      rw [Lib.count_cons_eq, Nat.add_comm, Lib.splitK]
      have hix : Lib.index (b :: l) [b] = 0 := by rw [Lib.index]; simp [List.isPrefixOf]
      rw [hix]
      simp only [toI, List.map_cons]
      rw [splitL, if_pos rfl, ← ih]
      rfl
    · have hp : ([c] : List UInt8).isPrefixOf (b :: l) = false := by simp [List.isPrefixOf, Ne.symm h]
      have hix : Lib.index (b :: l) [c] = if Lib.index l [c] == -1 then -1 else Lib.index l [c] + 1 := by rw [Lib.index, hp]; simp
      have hb : ¬ ((b.toNat : Int) = (c.toNat : Int)) := fun e => h (toI_inj.1 e)
      rw [Lib.count_cons_ne _ _ _ h]
      simp only [toI, List.map_cons]
      cases hk : Lib.count l [c] with
      | zero =>
        rw [hk] at ih
        rw [splitL_cons_ne hb (w := toI l) (ws := []) ih.symm]
        rfl
      | succ k =>
        rw [hk] at ih
        rw [Lib.splitK] at ih ⊢
        by_cases hm : Lib.index l [c] = -1
        · rw [hm] at ih hix
          rw [hix]
          rw [splitL_cons_ne hb (w := toI l) (ws := []) ih.symm]
          rfl
        · have hge := Lib.index_ge l [c]
          obtain ⟨j, hj⟩ : ∃ j : Nat, Lib.index l [c] = j := ⟨(Lib.index l [c]).toNat, by omega⟩
          have hnb : (Lib.index l [c] == -1) = false := by simpa using hm
          rw [hnb] at ih hix
          rw [hix]
          have h2 : ((if false = true then (-1 : Int) else Lib.index l [c] + 1) == -1) = false := by simp; omega
          rw [h2]
          simp only [Bool.false_eq_true, if_false] at ih ⊢
          rw [hj] at ih ⊢
          have e1 : ((j : Int) + 1).toNat = j + 1 := by omega
          have e2 : ((j : Int)).toNat = j := by omega
          rw [e1]
          rw [e2] at ih
          rw [List.map_cons] at ih
          rw [splitL_cons_ne hb ih.symm, List.map_cons]
          simp only [List.length_singleton, Nat.add_zero, List.take_succ_cons, List.drop_succ_cons, List.map_cons, toI]
theorem map_strs : ∀ (l : List ByteArray), l = ((l.map (·.data.toList)).map toI).map strOfNums
  | [] => rfl
  | s :: l => by
    rw [List.map_cons, List.map_cons, List.map_cons, ← map_strs l]
    congr 1
    exact (str_bytesL s).symm
theorem splitS_L (c : UInt8) (s : ByteArray) : splitS s ⟨#[c]⟩ = (splitL (c.toNat : Int) (bytesL s)).map strOfNums := by
  rw [map_strs (splitS s ⟨#[c]⟩)]
  unfold splitS
  rw [Lib.splitB_data]
  have : Lib.countB s ⟨#[c]⟩ = Lib.count s.data.toList [c] := rfl
  rw [this]
  exact congrArg (List.map strOfNums) (splitK_L c s.data.toList)
end Go.Proofs.YtghejeecanohoaaDoor

/-! Events: the fields of a kind alone; which events are right. -/
set_option linter.unusedVariables false
set_option linter.unusedSimpArgs false
set_option maxRecDepth 100000
set_option maxHeartbeats 4000000
namespace Go.Proofs.YtghejeecanohoaaDoor
open Go.Eng

/-- The word's field, out of the first event into the second one. -/
def setW (s e : Ev) (w : Int) : Ev :=
  if w = 0 then (e.1, s.2.1, e.2.2) else
  if w = 1 then (e.1, e.2.1, s.2.2.1, e.2.2.2) else
  if w = 2 then (e.1, e.2.1, e.2.2.1, s.2.2.2.1, e.2.2.2.2) else
  if w = 3 then (e.1, e.2.1, e.2.2.1, e.2.2.2.1, s.2.2.2.2.1, e.2.2.2.2.2) else
  if w = 4 then (e.1, e.2.1, e.2.2.1, e.2.2.2.1, e.2.2.2.2.1, s.2.2.2.2.2.1, e.2.2.2.2.2.2) else
  (e.1, e.2.1, e.2.2.1, e.2.2.2.1, e.2.2.2.2.1, e.2.2.2.2.2.1, s.2.2.2.2.2.2)
def evZ (k : Int) : Ev := (k, 0, 0, 0, ⟨#[]⟩, [], 0)
def setAllW (s : Ev) (ws : List Int) (e : Ev) : Ev := ws.foldl (setW s) e
theorem setAllW_snoc (s : Ev) (ws : List Int) (w : Int) (e : Ev) : setAllW s (ws ++ [w]) e = setW s (setAllW s ws e) w := by simp [setAllW]
def bareF (e : Ev) : Ev := setAllW e (nameF e.1).2 (evZ e.1)

theorem knownN : Known Tryd.prog (gOf [(26, nameC)]) := known_cons ⟨name_ok, Tryd.call26⟩ (known_nil _)
@[reducible] def bareC : Ctr := {
  X := Ev
  Y := Unit
  args := fun e => [.agg (evS true e)]
  rw := fun _ => []
  side := fun _ => True
  val := fun _ => ()
  ens := fun _ _ => True
  res := fun e _ => .agg (evS true (bareF e))
  out := fun _ _ => [] }
theorem words_len (k : Int) : (nameF k).2.length ≤ 4 := by
  rcases kinds k with rfl | rfl | rfl | rfl | rfl | rfl | rfl | rfl | rfl | rfl | rfl | hk
  case inr.inr.inr.inr.inr.inr.inr.inr.inr.inr.inr => rw [nameF_none hk]; simp
  all_goals decide
@[reducible] def bareL (e : Ev) : LA := {
  X := Nat
  pre := fun i => i ≤ (nameF e.1).2.length
  mu := fun i => (nameF e.1).2.length - i
  T := fun i => [(1, .ptr 1 0), (2, .ptr 2 0), (3, .ptr 3 0), (17, .ro false (.int .i64) (nameF e.1).2), (18, .v (.int .i64 (nameF e.1).2.length)), (19, .v (.int .i64 (i : Nat)))]
  M := fun i => [(1, .cells 24 (evS true e)), (2, .cells 24 (evS true (evZ 0))), (3, .cells 24 (evS true (setAllW e ((nameF e.1).2.take i) (evZ e.1))))] }
theorem bare_ok : bareC.ok Tryd.prog 32 := by
  refine ok_of_vc (An := fun (e : Ev) => anOf [(0, .loop (bareL e))]) knownN mo Tryd.func32 (by kernel_rfl) (by kernel_rfl) (fun _ _ => trivial) (fun (e : Ev) hs => ?_)
  have hwl := words_len e.1
  ((repeat' ((conv => whnf) <;> first | exact True.intro | (guard_target =~ Fork _ _ _; first | refine F1 ?_ | refine F2 ?_ | refine F3 (fun h => ?_) fun h => ?_) | (guard_target =~ Ar _ _ _; first | refine A1 ?_ | refine A2 ?_ | refine A3 ?_) | (guard_target =~ AskL _ _; first | refine L1 ?_) | (guard_target =~ Go.Eng.Ask _ _; first | refine K1 ?_) | (guard_target =~ All' _ _; first | (refine Y2 fun y he he' hy => ?_; (try dsimp only at he he' hy)) | (refine Y1 fun y he hy => ?_; (try with_reducible conv at he => (rhs; whnf)); (try dsimp only at he hy)) | (refine All'.mk ?_; intro y hy)) | refine F4 (fun h => ?_) fun h => ?_ | refine R1 ?_ | refine Q1 ?_ | fail)); all_goals (conv => whnf))
  refine CallP.mk (C := nameC) e.1 ?_
  ((repeat' ((conv => whnf) <;> first | exact True.intro | (guard_target =~ Fork _ _ _; first | refine F1 ?_ | refine F2 ?_ | refine F3 (fun h => ?_) fun h => ?_) | (guard_target =~ Ar _ _ _; first | refine A1 ?_ | refine A2 ?_ | refine A3 ?_) | (guard_target =~ AskL _ _; first | refine L1 ?_) | (guard_target =~ Go.Eng.Ask _ _; first | refine K1 ?_) | (guard_target =~ All' _ _; first | (refine Y2 fun y he he' hy => ?_; (try dsimp only at he he' hy)) | (refine Y1 fun y he hy => ?_; (try with_reducible conv at he => (rhs; whnf)); (try dsimp only at he hy)) | (refine All'.mk ?_; intro y hy)) | refine F4 (fun h => ?_) fun h => ?_ | refine R1 ?_ | refine Q1 ?_ | fail)); all_goals (conv => whnf))
  refine Some'.mk (0 : Nat) ?_
  ((repeat' ((conv => whnf) <;> first | exact True.intro | (guard_target =~ Fork _ _ _; first | refine F1 ?_ | refine F2 ?_ | refine F3 (fun h => ?_) fun h => ?_) | (guard_target =~ Ar _ _ _; first | refine A1 ?_ | refine A2 ?_ | refine A3 ?_) | (guard_target =~ AskL _ _; first | refine L1 ?_) | (guard_target =~ Go.Eng.Ask _ _; first | refine K1 ?_) | (guard_target =~ All' _ _; first | (refine Y2 fun y he he' hy => ?_; (try dsimp only at he he' hy)) | (refine Y1 fun y he hy => ?_; (try with_reducible conv at he => (rhs; whnf)); (try dsimp only at he hy)) | (refine All'.mk ?_; intro y hy)) | refine F4 (fun h => ?_) fun h => ?_ | refine R1 ?_ | refine Q1 ?_ | fail)); all_goals (conv => whnf))
  refine AllI.mk ?_
  rintro (i : Nat) hi
  have hi : i ≤ (nameF e.1).2.length := hi
  by_cases he : i = (nameF e.1).2.length
  · subst he
    have ht : (nameF e.1).2.take (nameF e.1).2.length = (nameF e.1).2 := List.take_length
    have hb : setAllW e (nameF e.1).2 (evZ e.1) = bareF e := rfl
    dsimp only [bareL]
    rw [ht, hb]
    exact G1
  · obtain ⟨w, hw⟩ : ∃ w, (nameF e.1).2[i]? = some w := ⟨_, List.getElem?_eq_getElem (by omega)⟩
    have ht := take_get hw
    have hsn := setAllW_snoc e ((nameF e.1).2.take i) w (evZ e.1)
    rw [← ht] at hsn
    obtain ⟨a, ha⟩ : ∃ a, a = setAllW e ((nameF e.1).2.take i) (evZ e.1) := ⟨_, rfl⟩
    dsimp only [bareL]
    rw [← ha] at hsn ⊢
    obtain ⟨a1, a2, a3, a4, a5, a6, a7⟩ := a
    ((repeat' ((conv => whnf) <;> first | exact True.intro | (guard_target =~ Fork _ _ _; first | refine F1 ?_ | refine F2 ?_ | refine F3 (fun h => ?_) fun h => ?_) | (guard_target =~ Ar _ _ _; first | refine A1 ?_ | refine A2 ?_ | refine A3 ?_) | (guard_target =~ AskL _ _; first | refine L1 ?_) | (guard_target =~ Go.Eng.Ask _ _; first | refine K1 ?_) | (guard_target =~ All' _ _; first | (refine Y2 fun y he he' hy => ?_; (try dsimp only at he he' hy)) | (refine Y1 fun y he hy => ?_; (try with_reducible conv at he => (rhs; whnf)); (try dsimp only at he hy))) | refine F4 (fun h => ?_) fun h => ?_ | refine R1 ?_ | refine Q1 ?_ | fail)); all_goals (conv => whnf))
    refine All'.mk ?_; rintro (w' : Int) hw'
    obtain rfl : w = w' := Option.some.inj (hw.symm.trans hw')
    ((repeat' ((conv => whnf) <;> first | exact True.intro | (guard_target =~ Fork _ _ _; first | refine F1 ?_ | refine F2 ?_ | refine F3 (fun h => ?_) fun h => ?_) | (guard_target =~ Ar _ _ _; first | refine A1 ?_ | refine A2 ?_ | refine A3 ?_) | (guard_target =~ AskL _ _; first | refine L1 ?_) | (guard_target =~ Go.Eng.Ask _ _; first | refine K1 ?_) | (guard_target =~ All' _ _; first | (refine Y2 fun y he he' hy => ?_; (try dsimp only at he he' hy)) | (refine Y1 fun y he hy => ?_; (try with_reducible conv at he => (rhs; whnf)); (try dsimp only at he hy)) | (refine All'.mk ?_; intro y hy)) | refine F4 (fun h => ?_) fun h => ?_ | refine R1 ?_ | refine Q1 ?_ | fail)); all_goals (conv => whnf))
    all_goals
      refine Some'.mk (i + 1) ?_
      rw [hsn]
      ((repeat' ((conv => whnf) <;> first | exact True.intro | (guard_target =~ Fork _ _ _; first | refine F1 ?_ | refine F2 ?_ | refine F3 (fun h => ?_) fun h => ?_) | (guard_target =~ Ar _ _ _; first | refine A1 ?_ | refine A2 ?_ | refine A3 ?_) | (guard_target =~ Go.Eng.Ask _ _; first | refine K1 ?_) | (guard_target =~ All' _ _; first | (refine Y2 fun y he he' hy => ?_; (try dsimp only at he he' hy)) | (refine Y1 fun y he hy => ?_; (try with_reducible conv at he => (rhs; whnf)); (try dsimp only at he hy)) | (refine All'.mk ?_; intro y hy)) | refine F4 (fun h => ?_) fun h => ?_ | refine R1 ?_ | refine Q1 ?_ | fail)); all_goals (conv => whnf))
      refine AskL.mk ?_ ?_
      · (dsimp only [conj]; repeat' apply And.intro) <;> first | rfl | omega | (simp only [setW]; (repeat first | rw [if_pos (by assumption)] | rw [if_neg (by assumption)]))
      ((repeat' ((conv => whnf) <;> first | exact True.intro | (guard_target =~ Fork _ _ _; first | refine F1 ?_ | refine F2 ?_ | refine F3 (fun h => ?_) fun h => ?_) | (guard_target =~ Ar _ _ _; first | refine A1 ?_ | refine A2 ?_ | refine A3 ?_) | (guard_target =~ AskL _ _; first | refine L1 ?_) | (guard_target =~ Go.Eng.Ask _ _; first | refine K1 ?_) | (guard_target =~ All' _ _; first | (refine Y2 fun y he he' hy => ?_; (try dsimp only at he he' hy)) | (refine Y1 fun y he hy => ?_; (try with_reducible conv at he => (rhs; whnf)); (try dsimp only at he hy)) | (refine All'.mk ?_; intro y hy)) | refine F4 (fun h => ?_) fun h => ?_ | refine R1 ?_ | refine Q1 ?_ | fail)); all_goals (conv => whnf))

/-! ### Right events -/
def okN (n : Int) : Prop := 0 ≤ n ∧ n ≤ 1048576
def rightP (e : Ev) : Prop := (nameF e.1).2 ≠ [] ∧ okN e.2.1 ∧ okN e.2.2.1 ∧ okN e.2.2.2.1 ∧ e.2.2.2.2.1.size ≤ 24 ∧ e.2.2.2.2.2.1.length ≤ 64 ∧ bareF e = e
open Classical in
noncomputable def rightB (e : Ev) : Bool := decide (rightP e)
theorem rightB_true {e : Ev} (h : rightP e) : rightB e = true := by unfold rightB; simpa using h
theorem rightB_false {e : Ev} (h : ¬ rightP e) : rightB e = false := by unfold rightB; simpa using h
theorem rightB_iff {e : Ev} : rightB e = true ↔ rightP e := by unfold rightB; simp
theorem okEv_set {s e : Ev} (hs : okEv s) (he : okEv e) (w : Int) : okEv (setW s e w) := by
  obtain ⟨s1, s2, s3, s4, s5, s6, s7⟩ := s
  obtain ⟨e1, e2, e3, e4, e5, e6, e7⟩ := e
  obtain ⟨h1, h2, h3, h4, h5⟩ := hs
  obtain ⟨g1, g2, g3, g4, g5⟩ := he
  unfold setW
  split
  · exact ⟨g1, g2, g3, g4, g5⟩
  · split
    · exact ⟨g1, g2, g3, g4, g5⟩
    · split
      · exact ⟨g1, g2, g3, g4, g5⟩
      · split
        · exact ⟨g1, g2, g3, g4, h5⟩
        · split
          · exact ⟨g1, h2, g3, h4, g5⟩
          · exact ⟨g1, g2, h3, g4, g5⟩
theorem okEv_all {s : Ev} (hs : okEv s) : ∀ (ws : List Int) {e : Ev}, okEv e → okEv (setAllW s ws e)
  | [], _, h => h
  | w :: ws, _, h => okEv_all hs ws (okEv_set hs h w)
theorem okEv_zero {k : Int} (h : -9223372036854775808 ≤ k ∧ k ≤ 9223372036854775807) : okEv (evZ k) := ⟨h, (fun c hc => nomatch hc : okB []), ⟨by show (0 : Int) ≤ 0; omega, by show (0 : Int) < 256; omega⟩, by show (0 : Nat) ≤ _; omega, by show (0 : Nat) ≤ _; omega⟩
theorem okEv_bare {e : Ev} (h : okEv e) : okEv (bareF e) := okEv_all h _ (okEv_zero h.1)

theorem knownR : Known Tryd.prog (gOf [(26, nameC), (32, bareC), (12, sameC)]) :=
  known_cons ⟨name_ok, Tryd.call26⟩ (known_cons ⟨bare_ok, Tryd.call32⟩ (known_cons ⟨same_ok, Tryd.call12⟩ (known_nil _)))
@[reducible] noncomputable def rightC : Ctr := {
  X := Ev
  Y := Unit
  args := fun e => [.agg (evS true e)]
  rw := fun _ => []
  side := fun e => okEv e
  val := fun _ => ()
  ens := fun _ _ => True
  res := fun e _ => .v (.bool (rightB e))
  out := fun _ _ => [] }
@[reducible] def rightL (e : Ev) : LA := {
  X := Nat
  pre := fun j => j ≤ 3 ∧ ∀ n, n ∈ [e.2.1, e.2.2.1, e.2.2.2.1].take j → okN n
  mu := fun j => 3 - j
  T := fun j => [(1, .ptr 1 0), (4, .ro false (.int .i64) (nameF e.1).2), (19, .ro false (.int .i64) [e.2.1, e.2.2.1, e.2.2.2.1]), (20, .v (.int .i64 3)), (21, .v (.int .i64 (j : Nat)))]
  M := fun j => [(1, .cells 24 (evS true e))] }
theorem right_ok : rightC.ok Tryd.prog 11 := by
  refine ok_of_vc (An := fun (e : Ev) => anOf [(0, .loop (rightL e))]) knownR mo Tryd.func11 (by kernel_rfl) (by kernel_rfl) (fun _ _ => trivial) (fun (e : Ev) hs => ?_)
  have hok : okEv e := hs
  have hwl := words_len e.1
  ((repeat' ((conv => whnf) <;> first | exact True.intro | (guard_target =~ Fork _ _ _; first | refine F1 ?_ | refine F2 ?_ | refine F3 (fun h => ?_) fun h => ?_) | (guard_target =~ Ar _ _ _; first | refine A1 ?_ | refine A2 ?_ | refine A3 ?_) | (guard_target =~ AskL _ _; first | refine L1 ?_) | (guard_target =~ Go.Eng.Ask _ _; first | refine K1 ?_) | (guard_target =~ All' _ _; first | (refine Y2 fun y he he' hy => ?_; (try dsimp only at he he' hy)) | (refine Y1 fun y he hy => ?_; (try with_reducible conv at he => (rhs; whnf)); (try dsimp only at he hy)) | (refine All'.mk ?_; intro y hy)) | refine F4 (fun h => ?_) fun h => ?_ | refine R1 ?_ | refine Q1 ?_ | fail)); all_goals (conv => whnf))
  refine CallP.mk (C := nameC) e.1 ?_
  ((repeat' ((conv => whnf) <;> first | exact True.intro | (guard_target =~ Fork _ _ _; first | refine F1 ?_ | refine F2 ?_ | refine F3 (fun h => ?_) fun h => ?_) | (guard_target =~ Ar _ _ _; first | refine A1 ?_ | refine A2 ?_ | refine A3 ?_) | (guard_target =~ AskL _ _; first | refine L1 ?_) | (guard_target =~ Go.Eng.Ask _ _; first | refine K1 ?_) | (guard_target =~ All' _ _; first | (refine Y2 fun y he he' hy => ?_; (try dsimp only at he he' hy)) | (refine Y1 fun y he hy => ?_; (try with_reducible conv at he => (rhs; whnf)); (try dsimp only at he hy)) | (refine All'.mk ?_; intro y hy)) | refine F4 (fun h => ?_) fun h => ?_ | refine R1 ?_ | refine Q1 ?_ | fail)); all_goals (conv => whnf))
  refine Some'.mk (0 : Nat) ?_
  ((repeat' ((conv => whnf) <;> first | exact True.intro | (guard_target =~ Fork _ _ _; first | refine F1 ?_ | refine F2 ?_ | refine F3 (fun h => ?_) fun h => ?_) | (guard_target =~ Ar _ _ _; first | refine A1 ?_ | refine A2 ?_ | refine A3 ?_) | (guard_target =~ AskL _ _; first | refine L1 ?_) | (guard_target =~ Go.Eng.Ask _ _; first | refine K1 ?_) | (guard_target =~ All' _ _; first | (refine Y2 fun y he he' hy => ?_; (try dsimp only at he he' hy)) | (refine Y1 fun y he hy => ?_; (try with_reducible conv at he => (rhs; whnf)); (try dsimp only at he hy)) | (refine All'.mk ?_; intro y hy)) | refine F4 (fun h => ?_) fun h => ?_ | refine R1 ?_ | refine Q1 ?_ | fail)); all_goals (conv => whnf))
  refine Ask.mk ⟨Nat.zero_le _, fun n hn => by cases hn⟩ ?_
  ((repeat' ((conv => whnf) <;> first | exact True.intro | (guard_target =~ Fork _ _ _; first | refine F1 ?_ | refine F2 ?_ | refine F3 (fun h => ?_) fun h => ?_) | (guard_target =~ Ar _ _ _; first | refine A1 ?_ | refine A2 ?_ | refine A3 ?_) | (guard_target =~ AskL _ _; first | refine L1 ?_) | (guard_target =~ Go.Eng.Ask _ _; first | refine K1 ?_) | (guard_target =~ All' _ _; first | (refine Y2 fun y he he' hy => ?_; (try dsimp only at he he' hy)) | (refine Y1 fun y he hy => ?_; (try with_reducible conv at he => (rhs; whnf)); (try dsimp only at he hy)) | (refine All'.mk ?_; intro y hy)) | refine F4 (fun h => ?_) fun h => ?_ | refine R1 ?_ | refine Q1 ?_ | fail)); all_goals (conv => whnf))
  refine AllI.mk ?_
  rintro (j : Nat) ⟨hj, hall⟩
  have hj : j ≤ 3 := hj
  have hall : ∀ n, n ∈ [e.2.1, e.2.2.1, e.2.2.2.1].take j → okN n := hall
  by_cases e3 : j = 3
  · subst e3
    have hA : okN e.2.1 := hall _ (by simp)
    have hB : okN e.2.2.1 := hall _ (by simp)
    have hN : okN e.2.2.2.1 := hall _ (by simp)
    ((repeat' ((conv => whnf) <;> first | exact True.intro | (guard_target =~ Fork _ _ _; first | refine F1 ?_ | refine F2 ?_ | refine F3 (fun h => ?_) fun h => ?_) | (guard_target =~ Ar _ _ _; first | refine A1 ?_ | refine A2 ?_ | refine A3 ?_) | (guard_target =~ AskL _ _; first | refine L1 ?_) | (guard_target =~ Go.Eng.Ask _ _; first | refine K1 ?_) | (guard_target =~ All' _ _; first | (refine Y2 fun y he he' hy => ?_; (try dsimp only at he he' hy)) | (refine Y1 fun y he hy => ?_; (try with_reducible conv at he => (rhs; whnf)); (try dsimp only at he hy)) | (refine All'.mk ?_; intro y hy)) | refine F4 (fun h => ?_) fun h => ?_ | refine R1 ?_ | refine Q1 ?_ | fail)); all_goals (conv => whnf))
    · have g1 := h
      refine CallP.mk (C := bareC) e ?_
      ((repeat' ((conv => whnf) <;> first | exact True.intro | (guard_target =~ Fork _ _ _; first | refine F1 ?_ | refine F2 ?_ | refine F3 (fun h => ?_) fun h => ?_) | (guard_target =~ Ar _ _ _; first | refine A1 ?_ | refine A2 ?_ | refine A3 ?_) | (guard_target =~ AskL _ _; first | refine L1 ?_) | (guard_target =~ Go.Eng.Ask _ _; first | refine K1 ?_) | (guard_target =~ All' _ _; first | (refine Y2 fun y he he' hy => ?_; (try dsimp only at he he' hy)) | (refine Y1 fun y he hy => ?_; (try with_reducible conv at he => (rhs; whnf)); (try dsimp only at he hy)) | (refine All'.mk ?_; intro y hy)) | refine F4 (fun h => ?_) fun h => ?_ | refine R1 ?_ | refine Q1 ?_ | fail)); all_goals (conv => whnf))
      refine CallP.mk (C := sameC) ⟨bareF e, e⟩ ?_
      ((repeat' ((conv => whnf) <;> first | exact True.intro | (guard_target =~ Fork _ _ _; first | refine F1 ?_ | refine F2 ?_ | refine F3 (fun h => ?_) fun h => ?_) | (guard_target =~ Ar _ _ _; first | refine A1 ?_ | refine A2 ?_ | refine A3 ?_) | (guard_target =~ Go.Eng.Ask _ _; first | refine K1 ?_) | (guard_target =~ All' _ _; first | (refine Y2 fun y he he' hy => ?_; (try dsimp only at he he' hy)) | (refine Y1 fun y he hy => ?_; (try with_reducible conv at he => (rhs; whnf)); (try dsimp only at he hy)) | (refine All'.mk ?_; intro y hy)) | refine F4 (fun h => ?_) fun h => ?_ | refine R1 ?_ | refine Q1 ?_ | fail)); all_goals (conv => whnf))
      refine AskL.mk ?_ ?_
      · (dsimp only [conj]; repeat' apply And.intro) <;> rfl
      refine Ask.mk ⟨okEv_bare hok, hok⟩ ?_
      ((repeat' ((conv => whnf) <;> first | exact True.intro | (guard_target =~ Fork _ _ _; first | refine F1 ?_ | refine F2 ?_ | refine F3 (fun h => ?_) fun h => ?_) | (guard_target =~ Ar _ _ _; first | refine A1 ?_ | refine A2 ?_ | refine A3 ?_) | (guard_target =~ Go.Eng.Ask _ _; first | refine K1 ?_) | (guard_target =~ All' _ _; first | (refine Y2 fun y he he' hy => ?_; (try dsimp only at he he' hy)) | (refine Y1 fun y he hy => ?_; (try with_reducible conv at he => (rhs; whnf)); (try dsimp only at he hy)) | (refine All'.mk ?_; intro y hy)) | refine F4 (fun h => ?_) fun h => ?_ | refine R1 ?_ | refine Q1 ?_ | fail)); all_goals (conv => whnf))
      refine AskL.mk ?_ trivial
      dsimp only [conj]
      by_cases hbe : bareF e = e
      · rw [sameB_true hbe, rightB_true ⟨List.length_pos_iff.1 (by omega), hA, hB, hN, by omega, by omega, hbe⟩]
      · rw [sameB_false hbe, rightB_false (fun hr => hbe hr.2.2.2.2.2.2)]
    all_goals
      refine AskL.mk ?_ trivial
      dsimp only [conj]
      refine (rightB_false fun hr => ?_).symm
      obtain ⟨r1, r2, r3, r4, r5, r6, r7⟩ := hr
      have := List.length_pos_iff.2 r1
      omega
  · obtain ⟨n, hn⟩ : ∃ n, [e.2.1, e.2.2.1, e.2.2.2.1][j]? = some n := ⟨_, List.getElem?_eq_getElem (by simp; omega)⟩
    have ht := take_get hn
    have hmn := List.mem_of_getElem? hn
    have hrn : rightP e → okN n := fun ⟨r1, r2, r3, r4, r5, r6, r7⟩ => by
      simp only [List.mem_cons, List.not_mem_nil, or_false] at hmn
      rcases hmn with rfl | rfl | rfl
      · exact r2
      · exact r3
      · exact r4
    ((repeat' ((conv => whnf) <;> first | exact True.intro | (guard_target =~ Fork _ _ _; first | refine F1 ?_ | refine F2 ?_ | refine F3 (fun h => ?_) fun h => ?_) | (guard_target =~ Ar _ _ _; first | refine A1 ?_ | refine A2 ?_ | refine A3 ?_) | (guard_target =~ AskL _ _; first | refine L1 ?_) | (guard_target =~ Go.Eng.Ask _ _; first | refine K1 ?_) | (guard_target =~ All' _ _; first | (refine Y2 fun y he he' hy => ?_; (try dsimp only at he he' hy)) | (refine Y1 fun y he hy => ?_; (try with_reducible conv at he => (rhs; whnf)); (try dsimp only at he hy))) | refine F4 (fun h => ?_) fun h => ?_ | refine R1 ?_ | refine Q1 ?_ | fail)); all_goals (conv => whnf))
    refine All'.mk ?_; rintro (n' : Int) hn'
    obtain rfl : n = n' := Option.some.inj (hn.symm.trans hn')
    ((repeat' ((conv => whnf) <;> first | exact True.intro | (guard_target =~ Fork _ _ _; first | refine F1 ?_ | refine F2 ?_ | refine F3 (fun h => ?_) fun h => ?_) | (guard_target =~ Ar _ _ _; first | refine A1 ?_ | refine A2 ?_ | refine A3 ?_) | (guard_target =~ AskL _ _; first | refine L1 ?_) | (guard_target =~ Go.Eng.Ask _ _; first | refine K1 ?_) | (guard_target =~ All' _ _; first | (refine Y2 fun y he he' hy => ?_; (try dsimp only at he he' hy)) | (refine Y1 fun y he hy => ?_; (try with_reducible conv at he => (rhs; whnf)); (try dsimp only at he hy)) | (refine All'.mk ?_; intro y hy)) | refine F4 (fun h => ?_) fun h => ?_ | refine R1 ?_ | refine Q1 ?_ | fail)); all_goals (conv => whnf))
    · refine AskL.mk ?_ trivial
      dsimp only [conj]
      refine (rightB_false fun hr => ?_).symm
      have := hrn hr
      unfold okN at this
      omega
    · refine AskL.mk ?_ trivial
      dsimp only [conj]
      refine (rightB_false fun hr => ?_).symm
      have := hrn hr
      unfold okN at this
      omega
    · refine Some'.mk (j + 1) ?_
      ((repeat' ((conv => whnf) <;> first | exact True.intro | (guard_target =~ Fork _ _ _; first | refine F1 ?_ | refine F2 ?_ | refine F3 (fun h => ?_) fun h => ?_) | (guard_target =~ Ar _ _ _; first | refine A1 ?_ | refine A2 ?_ | refine A3 ?_) | (guard_target =~ AskL _ _; first | refine L1 ?_) | (guard_target =~ Go.Eng.Ask _ _; first | refine K1 ?_) | (guard_target =~ All' _ _; first | (refine Y2 fun y he he' hy => ?_; (try dsimp only at he he' hy)) | (refine Y1 fun y he hy => ?_; (try with_reducible conv at he => (rhs; whnf)); (try dsimp only at he hy)) | (refine All'.mk ?_; intro y hy)) | refine F4 (fun h => ?_) fun h => ?_ | refine R1 ?_ | refine Q1 ?_ | fail)); all_goals (conv => whnf))
      refine Ask.mk ⟨by dsimp only; omega, fun m hm => ?_⟩ ?_
      · have hm : m ∈ [e.2.1, e.2.2.1, e.2.2.2.1].take (j + 1) := hm
        rw [ht] at hm
        rcases List.mem_append.1 hm with hm | hm
        · exact hall m hm
        · obtain rfl := List.mem_singleton.1 hm
          exact ⟨by omega, by omega⟩
      exact G1
end Go.Proofs.YtghejeecanohoaaDoor
