/- Contracts of strconv.Itoa, strconv.FormatUint at base 10, and strings.Join, out of the kit's. -/
import Derived.Test.YteckpdifeoffjaaDoorShelf
import Derived.Test.YteckpdifeoffjaaDoorEngV
import Derived.Test.YteckpdifeoffjaaDoorEngT
import Derived.Test.YteckpdifeoffjaaDoorChecked
import Derived.Shelf.Strconv.Itoa3
import Derived.Shelf.Strings.OnBuilder
import Derived.Lib.ItoaMem
import Derived.WalkKit
import Derived.BigCall
import Derived.BigGuard
namespace Go.Proofs.YteckpdifeoffjaaDoor
open Go.Shelf Go.RowKit Go.Sort Go.Lib Go.Eng
set_option linter.unusedVariables false
set_option linter.unusedSimpArgs false

theorem holds_zero0 (w : World) (T : TypeId) (nd : Nat) (hs : nd ≤ 24) : Holds (fun (b : UInt8) => Value.int .u8 (b.toNat : Int)) (w.alloc (.cells zeros24 T)) w.heap.size 0 (Array.replicate nd (0 : UInt8)) := fun j hj => by
  have hj' : j < nd := by simpa using hj
  refine ⟨?_, World.frozen?_alloc_new _ _ _ _⟩
  rw [World.cell?_alloc_new, zeros24_at _ (by omega), getElem!_pos _ j hj]
  simp

theorem fin_pos0 (w : World) (o : Obj) (dk : Array UInt8) (k : Nat) : ∃ os, (putRow (fun (b : UInt8) => Value.int .u8 (b.toNat : Int)) (w.alloc o) w.heap.size 0 dk).drewN k = grow (w.drewN k) os := by
  rw [alloc_eq_grow]
  obtain ⟨os', _, e⟩ := putRow_grow_new (fun (b : UInt8) => Value.int .u8 (b.toNat : Int)) w #[o] w.heap.size 0 dk (Nat.le_refl _)
  exact ⟨os', by rw [e]; rfl⟩

set_option maxHeartbeats 6400000 in
set_option maxRecDepth 100000 in
theorem internal_FormatUint (u : Nat) (hu64 : u < 18446744073709551616) (w : World) (htab : Lib.TabIs Tryd.prog w "internal/strconv.uint64pow10" .u64 Lib.pow10Tab) :
    Calls Tryd.prog 33 #[.int .u64 u, .int .i64 10] w fun e w' => e = .returned (.string ⟨(Lib.decDigits u).toArray⟩) ∧ ∃ k os, w' = grow (w.drewN k) os := by
  by_cases hs : u < 100
  · have hcv : ∀ W, (convert 30 3 (.int .u64 (u : Int))).run Tryd.prog W = .ok (.int .i64 (u : Int)) W := fun W => by
      have e : IntKind.i64.wrap (u : Int) = (u : Int) := wrap_i64 (by omega) (by omega)
      have h : (convert 30 3 (.int .u64 (u : Int))).run Tryd.prog W = .ok (.int .i64 (IntKind.i64.wrap (u : Int))) W := by kernel_rfl
      rw [h, e]
    go_enter Tryd.func33, Tryd.ntmps33
    go_wp2_with fail
    refine (Tryd.internal_strconv_small u hs _).mono ?_
    rintro e w' ⟨rfl, rfl⟩
    go_wp2
    go_ret
    refine ⟨rfl, 0, #[], by simp [World.drewN_zero]⟩
  · have hu1 : 1 ≤ u := by omega
    have hnd20 : Lib.nDigits u ≤ 20 := by have := Lib.numDigits_eq u hu1 hu64; split at this <;> omega
    have hb3 : Lib.nDigits u ≤ 24 := by omega
    have hal : Tryd.prog.arrayLen 78 = 24 := by kernel_rfl
    have hsl1 : ∀ W, (Instr.sliceAt 78 (.pointer (some ⟨w.heap.size, 0, none⟩)) none (some (.int .i64 (Lib.nDigits u : Int))) none).run Tryd.prog W = .ok (.slice (some ⟨w.heap.size, 0, none⟩) (Lib.nDigits u) 24) W := fun W => by
      rw [run_sliceAt_array_h W 78 ⟨w.heap.size, 0, none⟩ (by kernel_rfl) .i64 (Lib.nDigits u : Int) (by omega) (by rw [hal]; omega)]
      go_simp
    have hH0 := holds_zero0 w 78 (Lib.nDigits u) (by omega)
    have hfmt := Tryd.internal_strconv_formatBase10 w.heap.size 0 24 u (Array.replicate (Lib.nDigits u) 0) (w.alloc (.cells Lib.zeros24 78)) hH0 (by rw [Array.size_replicate]; exact Lib.lt_pow_nDigits u) hu64 (by rw [Array.size_replicate]; omega)
    rw [Array.size_replicate] at hfmt
    have HH0 := Lib.hid hH0
    clear hH0 hal
    go_enter Tryd.func33, Tryd.ntmps33
    go_wp2_with (first
      | (go_at_call 39; refine (Tryd.internal_strconv_numDigits u hu1 hu64 _ (Lib.tabIs_alloc htab _)).mono ?_; rintro e w' ⟨rfl, rfl⟩))

    go_at_call 40
    refine hfmt.mono ?_
    rintro e w' ⟨rfl, k, v', dk, rfl, hF⟩
    have hcv : (convert 69 9 (.slice (some ⟨w.heap.size, 0, none⟩) (Lib.nDigits u) 24)).run Tryd.prog ((putRow (fun (b : UInt8) => Value.int .u8 (b.toNat : Int)) (w.alloc (.cells Lib.zeros24 78)) w.heap.size 0 dk).drewN k) = .ok (.string ⟨(Lib.decDigits u).toArray⟩) ((putRow (fun (b : UInt8) => Value.int .u8 (b.toNat : Int)) (w.alloc (.cells Lib.zeros24 78)) w.heap.size 0 dk).drewN k) := by
      have h := run_convert_bytes_back (P := Tryd.prog) ((putRow (fun (b : UInt8) => Value.int .u8 (b.toNat : Int)) (w.alloc (.cells Lib.zeros24 78)) w.heap.size 0 dk).drewN k) 69 9 5 ⟨w.heap.size, 0, none⟩ 24 (Lib.decDigits u) (by kernel_rfl) (by kernel_rfl) (by kernel_rfl) (fun j hj => by
        rw [Lib.row_is_numeral hF j hj, Lib.add_plain, World.cell?_drewN]
        exact cell?_putRow (fun (b : UInt8) => Value.int .u8 (b.toNat : Int)) _ w.heap.size 0 _ dk HH0.out (by rw [hF.size, Array.size_replicate]) j (by rw [hF.size]; rw [Lib.decDigits_length] at hj; exact hj))
      rw [Lib.decDigits_length] at h
      exact h
    go_wp2
    go_ret
    obtain ⟨os, eo⟩ := fin_pos0 w (.cells Lib.zeros24 78) dk k
    exact ⟨rfl, k, os, eo⟩

def itoaS (n : Int) : ByteArray := ⟨(Lib.itoa n).toArray⟩
def decS (n : Nat) : ByteArray := ⟨(Lib.decDigits n).toArray⟩
theorem itoaS_nat (n : Nat) : itoaS (n : Int) = decS n := by unfold itoaS decS; rw [Lib.itoa_nonneg]
def joinS (l : List ByteArray) (sep : ByteArray) : ByteArray := ⟨(Lib.join (l.map (·.data.toList)) sep.data.toList).toArray⟩

theorem tabPow {E : Env} {w : World} (h : GlobOk E w) : Lib.TabIs Tryd.prog w "internal/strconv.uint64pow10" .u64 Lib.pow10Tab :=
  glob_tab (g := 0) h (by kernel_rfl) (List.mem_cons_self ..) (fun a ha => by rw [ha]; simp [Lib.pow10Tab, Function.comp_def])

@[reducible] def itoaC : Ctr := {
  X := Int
  Y := Unit
  args := fun n => [.v (.int .i64 n)]
  rw := fun _ => []
  side := fun n => -9223372036854775808 ≤ n ∧ n ≤ 9223372036854775807
  val := fun _ => ()
  ens := fun _ _ => True
  res := fun n _ => .v (.string (itoaS n))
  out := fun _ _ => [] }
theorem itoa_ok : itoaC.ok Tryd.prog 25 := by
  refine ok_of_walk (fun _ => rfl) (fun _ => rfl) (fun n hs => ⟨trivial, fun E w vals hsz hv hg hI => ?_⟩)
  rw [vals_one hsz, sat_v (hv 0 _ rfl)]
  refine (Tryd.strconv_Itoa n hs.1 hs.2 w (tabPow hg)).mono ?_
  rintro e w' ⟨rfl, k, os, rfl⟩
  exact ⟨_, rfl, .v _, below_grow w k os⟩

@[reducible] def futC : Ctr := {
  X := Nat
  Y := Unit
  args := fun n => [.v (.int .u64 (n : Nat)), .v (.int .i64 10)]
  rw := fun _ => []
  side := fun n => n ≤ 18446744073709551615
  val := fun _ => ()
  ens := fun _ _ => True
  res := fun n _ => .v (.string (decS n))
  out := fun _ _ => [] }
set_option maxRecDepth 100000 in
theorem fut_ok : futC.ok Tryd.prog 26 := by
  refine ok_of_walk (fun _ => rfl) (fun _ => rfl) (fun n hs => ⟨trivial, fun E w vals hsz hv hg hI => ?_⟩)
  have hs : n ≤ 18446744073709551615 := hs
  rw [vals_two hsz, sat_v (hv 0 _ rfl), sat_v (hv 1 _ rfl)]
  go_enter Tryd.func26, Tryd.ntmps26
  go_wp2_with (go_at_call 33; refine (internal_FormatUint n (by omega) _ (tabPow hg)).mono ?_; rintro e w' ⟨rfl, k, os, rfl⟩)
  go_ret
  exact ⟨_, rfl, .v _, below_grow w k os⟩

structure JoinX where
  l : List ByteArray
  sep : ByteArray
@[reducible] def joinC : Ctr := {
  X := JoinX
  Y := Unit
  args := fun x => [.ro true .str x.l, .v (.string x.sep)]
  rw := fun _ => []
  side := fun x => x.l.length ≤ 140737488355328 ∧ (joinS x.l x.sep).size ≤ 140737488355328
  val := fun _ => ()
  ens := fun _ _ => True
  res := fun x _ => .v (.string (joinS x.l x.sep))
  out := fun _ _ => [] }
theorem join_ok : joinC.ok Tryd.prog 27 := by
  refine ok_of_walk (fun _ => rfl) (fun _ => rfl) (fun x hs => ⟨trivial, fun E w vals hsz hv hg hI => ?_⟩)
  obtain ⟨l, sep⟩ := x
  obtain ⟨h1, h2⟩ := hs
  dsimp only at h1 h2
  have h2 : (Lib.join (l.map (·.data.toList)) sep.data.toList).length ≤ 140737488355328 := by
    have e : (joinS l sep).size = (Lib.join (l.map (·.data.toList)) sep.data.toList).length := by
      show (Array.size _) = _
      simp [joinS]
    omega
  rw [vals_two hsz, sat_v (hv 1 _ rfl)]
  rcases sat_strs (hv 0 _ rfl) with ⟨rfl, A, c, e⟩ | ⟨k, o, c, e, hk, hc, hcells⟩
  · rw [e]
    refine (Tryd.strings_Join_none A c sep w).mono ?_
    rintro e w' ⟨rfl, rfl⟩
    exact ⟨_, rfl, .v _, Below.refl _ _⟩
  · rw [e]
    refine (Tryd.strings_Join k o c l sep w hcells (env_ok_lt hI hk) h1 hc h2).mono ?_
    rintro e w' ⟨rfl, hb⟩
    exact ⟨_, rfl, .v _, hb⟩
