/- What all texts of this seat use. -/
import Derived.Test.YteckpdifeoffjaaDoorEngT
import Derived.Test.YteckpdifeoffjaaDoorRows
set_option linter.unusedVariables false
set_option linter.unusedSimpArgs false
namespace Go.Proofs.YteckpdifeoffjaaDoor
open Go.Eng

theorem mo : Tryd.prog.follows .mixedOrders = true := by kernel_rfl

/-! ### Strings as lists of numbers -/
theorem str_cat (a b : List Int) : strOfNums a ++ strOfNums b = strOfNums (a ++ b) := by
  apply ByteArray.ext
  simp [strOfNums, ByteArray.data_append]
theorem str_size (a : List Int) : (strOfNums a).size = a.length := strOfNums_size a
theorem str_bytesL (s : ByteArray) : strOfNums (bytesL s) = s := by
  apply ByteArray.ext
  apply Array.toList_inj.1
  rw [strOfNums_data]
  unfold bytesL
  rw [List.map_map]
  have : ((fun n : Int => UInt8.ofNat n.toNat) ∘ fun b : UInt8 => ((b.toNat : Nat) : Int)) = id := by
    funext b; simp
  rw [this, List.map_id]
theorem bytesL_length (s : ByteArray) : (bytesL s).length = s.size := by
  show (s.data.toList.map _).length = s.data.size
  simp

theorem wrap_u8_mod (n : Int) : IntKind.u8.wrap n = n % 256 := by
  simp only [IntKind.wrap, IntKind.bits, IntKind.signed, Bool.false_and, Bool.false_eq_true, if_false]
  rfl
theorem wrap_u64_mod (n : Int) : IntKind.u64.wrap n = n % 18446744073709551616 := by
  simp only [IntKind.wrap, IntKind.bits, IntKind.signed, Bool.false_and, Bool.false_eq_true, if_false]
  rfl

/-- The digits of a number to the base 256, the greatest ahead. -/
def beL (u : Nat) : List Int := if h : u = 0 then [] else beL (u / 256) ++ [((u % 256 : Nat) : Int)]
termination_by u
decreasing_by omega
theorem beL_zero : beL 0 = [] := by rw [beL]; simp
theorem beL_pos {u : Nat} (h : 0 < u) : beL u = beL (u / 256) ++ [((u % 256 : Nat) : Int)] := by
  rw [beL, dif_neg (by omega)]
theorem beL_len_pos {u : Nat} (h : 0 < u) : (beL u).length = (beL (u / 256)).length + 1 := by rw [beL_pos h]; simp
theorem beL_lt : ∀ (n u : Nat), u < 256 ^ n → (beL u).length ≤ n
  | 0, u, h => by have : u = 0 := by omega
                  subst this; rw [beL_zero]; exact Nat.le_refl 0
  | n + 1, u, h => by
    rcases Nat.eq_zero_or_pos u with rfl | hp
    · rw [beL_zero]; exact Nat.zero_le _
    · rw [beL_len_pos hp]
      have := beL_lt n (u / 256) (by rw [Nat.pow_succ] at h; omega)
      omega
/-- What is left when r digits are struck off. -/
theorem beL_shift : ∀ (r u : Nat), r ≤ (beL u).length → (beL (u / 256 ^ r)).length = (beL u).length - r
  | 0, u, _ => by simp
  | r + 1, u, h => by
    rcases Nat.eq_zero_or_pos u with rfl | hp
    · rw [beL_zero] at h; simp at h
    · have e := beL_len_pos hp
      have := beL_shift r (u / 256) (by omega)
      rw [Nat.div_div_eq_div_mul, Nat.mul_comm, ← Nat.pow_succ] at this
      rw [this]; omega
theorem beL_len_zero {u : Nat} (h : (beL u).length = 0) : u = 0 := by
  rcases Nat.eq_zero_or_pos u with h0 | hp
  · exact h0
  · rw [beL_len_pos hp] at h; omega
theorem beL_step (r u : Nat) (h : r < (beL u).length) : beL (u / 256 ^ r) = beL (u / 256 ^ (r + 1)) ++ [((u / 256 ^ r % 256 : Nat) : Int)] := by
  have h1 := beL_shift r u (by omega)
  have hp : 0 < u / 256 ^ r := by
    rcases Nat.eq_zero_or_pos (u / 256 ^ r) with h0 | hp
    · rw [h0, beL_zero] at h1; simp at h1; omega
    · exact hp
  rw [beL_pos hp, Nat.div_div_eq_div_mul, ← Nat.pow_succ]
theorem beL_all (u : Nat) : u / 256 ^ (beL u).length = 0 := beL_len_zero (by rw [beL_shift _ u (Nat.le_refl _)]; omega)

/-- A number's bytes. -/
def numL (u : Nat) : List Int := if u ≤ 247 then [(u : Int)] else ((247 + (beL u).length : Nat) : Int) :: beL u
theorem numL_small {u : Nat} (h : u ≤ 247) : numL u = [(u : Int)] := if_pos h
theorem numL_great {u : Nat} (h : ¬ u ≤ 247) : numL u = ((247 + (beL u).length : Nat) : Int) :: beL u := if_neg h
theorem numL_le {u : Nat} (h : u < 18446744073709551616) : (numL u).length ≤ 9 := by
  unfold numL
  split
  · simp
  · have := beL_lt 8 u (by omega)
    simp; omega
end Go.Proofs.YteckpdifeoffjaaDoor
