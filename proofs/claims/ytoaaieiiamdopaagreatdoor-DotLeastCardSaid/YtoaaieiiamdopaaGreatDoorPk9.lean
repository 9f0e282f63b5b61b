/- Parts of the proof, one behind the other (LibB, LibJ, TxtA, TxtB, TxtC, LibK, TxtD, TxtE, TxtF, TxtG, EyeA, EyeB, EyeC, DotC). -/
import Derived.Test.YtoaaieiiamdopaaGreatDoorPk8
import Derived.Test.YtoaaieiiamdopaaGreatDoorChecked
import Derived.Shelf.Strings.SplitShaped
import Derived.Shelf.Strings.Prefix
import Derived.Shelf.Strconv.AtoiAll
import Derived.Lib.AtoiErrMem
import Derived.Lib.SplitLaws
import Derived.RangeFuncRecord
import Derived.Shelf.Strconv.Itoa3
import Derived.Shelf.Strings.OnBuilder
import Derived.Lib.ItoaMem
import Derived.WalkKit
import Derived.BigCall
import Derived.BigGuard
import Derived.Shelf.Strings.Cut
import Derived.Lib.SmallJoins
set_option linter.unusedVariables false
set_option linter.unusedSimpArgs false
set_option linter.unusedSectionVars false
namespace Go.Proofs.YtoaaieiiamdopaaGreatDoor
open Go.Shelf Go.RowKit Go.Sort Go.Lib Go.Eng
set_option linter.unusedVariables false
set_option linter.unusedSimpArgs false
structure StrX where
  s : ByteArray
  t : ByteArray
def splitS (s sep : ByteArray) : List ByteArray := Lib.splitB sep 0 (Lib.countB s sep) s
@[reducible] def splitC : Ctr := {
  X := StrX
  Y := Unit
  args := fun x => [.v (.string x.s), .v (.string x.t)]
  rw := fun _ => []
  side := fun x => x.s.size < 4294967281 ∧ 1 ≤ x.t.size
  val := fun _ => ()
  ens := fun _ _ => True
  res := fun x _ => .ro false .str (splitS x.s x.t)
  out := fun _ _ => [] }
theorem split_ok : splitC.ok Tryz.prog 54 := by
  refine ok_of_walk_new (fun _ => rfl) (fun _ => rfl) (fun x hs => ⟨trivial, fun E w vals hsz hv hg hI => ?_⟩)
  obtain ⟨s, t⟩ := x
  obtain ⟨h1, h2⟩ := hs
  dsimp only at h1 h2
  rw [vals_two hsz, sat_v (hv 0 _ rfl), sat_v (hv 1 _ rfl)]
  obtain ⟨a, ⟨m, ha⟩, hm⟩ := glob_some (g := 0) hg (List.mem_cons_of_mem _ (List.mem_cons_of_mem _ (List.mem_cons_of_mem _ (List.mem_cons_self ..))))
  refine (Tryz.strings_Split s t m w h1 (hm _ ha) h2).mono ?_
  rintro e w' ⟨rfl, rfl⟩
  have hl : (splitS s t).length = Lib.countB s t + 1 := Lib.splitB_all _ h2 _ _ _ rfl
  refine ⟨_, rfl, ?_, Below.alloc (.refl _ _) (Nat.le_refl _) _, fun h => h.elim⟩
  rw [← hl]
  exact strs_new (te := 9) (fz := (0, 0)) (World.alloc_heap_new w _) (Nat.le_refl _)

def atoiN (s : ByteArray) : Int :=
  match Lib.atoiAll s.data.toList with
  | .ok v => v
  | .range => Lib.atoiSat s.data.toList
  | _ => 0
theorem sat_any2 (E : Env) (w : World) (a b : Value) : Sat E w (.tuple [.v a, .any]) (.tuple #[a, b]) :=
  .tuple _ _ (fun j => (#[a, b] : Array Value).getD j undef) rfl (fun j hj => by
    match j, hj with
    | 0, _ => rfl
    | 1, _ => rfl) (fun j sv hj => by
    match j, hj with
    | 0, hj => obtain rfl : SV.v a = sv := by simpa using hj
               exact .v _
    | 1, hj => obtain rfl : SV.any = sv := by simpa using hj
               exact .any _
    | j + 2, hj => simp at hj)
@[reducible] def atoiC : Ctr := {
  X := ByteArray
  Y := Unit
  args := fun x => [.v (.string x)]
  rw := fun _ => []
  side := fun x => x.size ≤ 281474976710656
  val := fun _ => ()
  ens := fun _ _ => True
  res := fun x _ => .tuple [.v (.int .i64 (atoiN x)), .any]
  out := fun _ _ => [] }
theorem atoi_ok : atoiC.ok Tryz.prog 79 := by
  refine ok_of_walk (fun _ => rfl) (fun _ => rfl) (fun s hs => ⟨trivial, fun E w vals hsz hv hg hI => ?_⟩)
  dsimp only at hs
  rw [vals_one hsz, sat_v (hv 0 _ rfl)]
  obtain ⟨a, ⟨te, pe, ha⟩, hm⟩ := glob_some (g := 1) hg (List.mem_cons_of_mem _ (List.mem_cons_self ..))
  obtain ⟨a', ⟨te', pe', ha'⟩, hm'⟩ := glob_some (g := 2) hg (List.mem_cons_of_mem _ (List.mem_cons_of_mem _ (List.mem_cons_self ..)))
  cases h : Lib.atoiAll s.data.toList with
  | ok v =>
    have e : atoiN s = v := by simp [atoiN, h]
    refine (Tryz.strconv_Atoi_ok s (by omega) v h w).mono ?_
    rintro ex w' ⟨rfl, hw⟩
    refine ⟨_, rfl, ?_, ?_, fun h => h.elim⟩
    · show Sat E w' (.tuple [.v (.int .i64 (atoiN s)), .any]) _
      rw [e]; exact sat_any2 ..
    · rcases hw with rfl | ⟨t, rfl⟩
      · exact .refl _ _
      · exact Lib.bytesWorld_below _ _ _
  | range =>
    have e : atoiN s = Lib.atoiSat s.data.toList := by simp [atoiN, h]
    refine (Tryz.strconv_Atoi_range s hs h _ w (hm' _ ha') (.inr ⟨_, _, rfl⟩)).mono ?_
    rintro ex w' ⟨N, rfl, -, -, hw⟩
    exact ⟨_, rfl, by show Sat E w' (.tuple [.v (.int .i64 (atoiN s)), .any]) _; rw [e]; exact sat_any2 .., hw, fun h => h.elim⟩
  | _ =>
    have e : atoiN s = 0 := by simp [atoiN, h]
    refine (Tryz.strconv_Atoi_syntax s hs h _ w (hm _ ha) (.inr ⟨_, _, rfl⟩)).mono ?_
    rintro ex w' ⟨N, rfl, -, -, hw⟩
    exact ⟨_, rfl, by show Sat E w' (.tuple [.v (.int .i64 (atoiN s)), .any]) _; rw [e]; exact sat_any2 .., hw, fun h => h.elim⟩
end Go.Proofs.YtoaaieiiamdopaaGreatDoor

namespace Go.Proofs.YtoaaieiiamdopaaGreatDoor
open Go.Shelf Go.RowKit Go.Sort Go.Lib Go.Eng
set_option linter.unusedVariables false
set_option linter.unusedSimpArgs false
def joinS (l : List ByteArray) (sep : ByteArray) : ByteArray := ⟨(Lib.join (l.map (·.data.toList)) sep.data.toList).toArray⟩
structure JoinX where
  l : List ByteArray
  sep : ByteArray
@[reducible] def joinC : Ctr := {
  X := JoinX
  Y := Unit
  args := fun x => [.ro true .str x.l, .v (.string x.sep)]
  rw := fun _ => []
  side := fun x => x.l.length ≤ 140737488355328 ∧ (joinS x.l x.sep).size ≤ 140737488355328
  val := fun _ => ()
  ens := fun _ _ => True
  res := fun x _ => .v (.string (joinS x.l x.sep))
  out := fun _ _ => [] }
theorem sjoin_ok : joinC.ok Tryz.prog 61 := by
  refine ok_of_walk (fun _ => rfl) (fun _ => rfl) (fun x hs => ⟨trivial, fun E w vals hsz hv hg hI => ?_⟩)
  obtain ⟨l, sep⟩ := x
  obtain ⟨h1, h2⟩ := hs
  dsimp only at h1 h2
  have h2 : (Lib.join (l.map (·.data.toList)) sep.data.toList).length ≤ 140737488355328 := by
    have e : (joinS l sep).size = (Lib.join (l.map (·.data.toList)) sep.data.toList).length := by
      show (Array.size _) = _
      simp [joinS]
    omega
  rw [vals_two hsz, sat_v (hv 1 _ rfl)]
  rcases sat_strs (hv 0 _ rfl) with ⟨rfl, A, c, e⟩ | ⟨k, o, c, e, hk, hc, hcells⟩
  · rw [e]
    refine (Tryz.strings_Join_none A c sep w).mono ?_
    rintro e w' ⟨rfl, rfl⟩
    exact ⟨_, rfl, .v _, Below.refl _ _, fun h => h.elim⟩
  · rw [e]
    refine (Tryz.strings_Join k o c l sep w hcells (env_ok_lt hI hk) h1 hc h2).mono ?_
    rintro e w' ⟨rfl, hb⟩
    exact ⟨_, rfl, .v _, hb, fun h => h.elim⟩
end Go.Proofs.YtoaaieiiamdopaaGreatDoor

set_option linter.unusedVariables false
set_option linter.unusedSimpArgs false
set_option maxRecDepth 100000
set_option maxHeartbeats 4000000
namespace Go.Proofs.YtoaaieiiamdopaaGreatDoor
open Go.Eng
def okB (l : List Int) : Prop := ∀ c, c ∈ l → 0 ≤ c ∧ c < 256
theorem bytes_str : ∀ {l : List Int}, okB l → bytesL (strOfNums l) = l := fun {l} h => by
  unfold bytesL
  rw [strOfNums_data, List.map_map]
  conv => rhs; rw [← List.map_id l]
  refine List.map_congr_left fun c hc => ?_
  obtain ⟨h1, h2⟩ := h c hc
  have : ((UInt8.ofNat c.toNat).toNat : Int) = c := by
    rw [UInt8.toNat_ofNat', Nat.mod_eq_of_lt (by omega)]; omega
  exact this
theorem okB_app {a b : List Int} (h : okB a) (h' : okB b) : okB (a ++ b) := fun c hc => (List.mem_append.1 hc).elim (h c) (h' c)
theorem okB_cons {c : Int} {l : List Int} (h : 0 ≤ c ∧ c < 256) (h' : okB l) : okB (c :: l) := fun x hx => by
  rcases List.mem_cons.1 hx with rfl | hx
  · exact h
  · exact h' x hx
theorem take_get {α : Type} {l : List α} {i : Nat} {c : α} (h : l[i]? = some c) : l.take (i + 1) = l.take i ++ [c] := by
  rw [List.take_add_one, h]; rfl


/-- A number's digits. -/
def decL (n : Nat) : List Int := if h : n < 10 then [48 + (n : Int)] else decL (n / 10) ++ [48 + ((n % 10 : Nat) : Int)]
termination_by n
decreasing_by omega
theorem decL_small {n : Nat} (h : n < 10) : decL n = [48 + (n : Int)] := by rw [decL, dif_pos h]
theorem decL_great {n : Nat} (h : ¬ n < 10) : decL n = decL (n / 10) ++ [48 + ((n % 10 : Nat) : Int)] := by rw [decL, dif_neg h]
theorem decL_dec (n : Nat) : (Lib.decDigits n).map (fun b => (b.toNat : Int)) = decL n := by
  induction n using Nat.strongRecOn with
  | _ n ih =>
    by_cases h : n < 10
    · rw [decL_small h, Lib.decDigits, dif_pos h]
      simp only [List.map_cons, List.map_nil, UInt8.toNat_ofNat']
      congr 1; omega
    · rw [decL_great h, Lib.decDigits, dif_neg h, List.map_append, ih (n / 10) (by omega)]
      simp only [List.map_cons, List.map_nil, UInt8.toNat_ofNat']
      congr 2; omega
theorem itoa_dec {n : Int} (h : 0 ≤ n) : itoaS n = strOfNums (decL n.toNat) := by
  obtain ⟨k, rfl⟩ := Int.eq_ofNat_of_zero_le h
  rw [itoaS_nat, ← str_bytesL (decS k)]
  show _ = strOfNums (decL k)
  rw [← decL_dec]; rfl
theorem decL_len : ∀ (k n : Nat), n < 10 ^ (k + 1) → (decL n).length ≤ k + 1
  | 0, n, h => by rw [decL_small (by omega)]; simp
  | k + 1, n, h => by
    by_cases h10 : n < 10
    · rw [decL_small h10]; simp
    · have := decL_len k (n / 10) (by rw [Nat.pow_succ] at h; omega)
      rw [decL_great h10, List.length_append, List.length_singleton]; omega

def isD (c : Int) : Bool := decide (48 ≤ c ∧ c ≤ 57)
def numV (l : List Int) : Int := l.foldl (fun n c => n * 10 + (c - 48)) 0
theorem numV_snoc (l : List Int) (c : Int) : numV (l ++ [c]) = numV l * 10 + (c - 48) := by simp [numV]
/-- A list cut at each c. -/
def splitL (c : Int) : List Int → List (List Int)
  | [] => [[]]
  | b :: l => if b = c then [] :: splitL c l else match splitL c l with
    | [] => [[b]]
    | w :: ws => (b :: w) :: ws
theorem splitL_ne (c : Int) : ∀ l, splitL c l ≠ []
  | [] => by simp [splitL]
  | b :: l => by
    unfold splitL
    split
    · simp
    · split <;> simp
theorem splitL_le (c : Int) : ∀ l, (splitL c l).length ≤ l.length + 1
  | [] => by simp [splitL]
  | b :: l => by
    have := splitL_le c l
    unfold splitL
    split
    · simp only [List.length_cons]; omega
    · split
      · simp
      · rename_i h; rw [h] at this; simp only [List.length_cons] at this ⊢; omega
theorem splitL_mem (c : Int) : ∀ (l w : List Int), w ∈ splitL c l → w.length ≤ l.length ∧ ∀ x, x ∈ w → x ∈ l ∧ x ≠ c
  | [], w, h => by
    obtain rfl : w = [] := by simpa [splitL] using h
    exact ⟨Nat.le_refl _, fun x hx => by cases hx⟩
  | b :: l, w, h => by
    unfold splitL at h
    split at h
    · rcases List.mem_cons.1 h with rfl | h
      · exact ⟨Nat.zero_le _, fun x hx => by cases hx⟩
      · obtain ⟨h1, h2⟩ := splitL_mem c l w h
        exact ⟨by simp only [List.length_cons]; omega, fun x hx => ⟨List.mem_cons_of_mem _ (h2 x hx).1, (h2 x hx).2⟩⟩
    · rename_i hb
      split at h
      · rename_i he; exact absurd he (splitL_ne c l)
      · rename_i v vs he
        have ih := splitL_mem c l
        rw [he] at ih
        rcases List.mem_cons.1 h with rfl | h
        · obtain ⟨h1, h2⟩ := ih v (List.mem_cons_self ..)
          refine ⟨by simp only [List.length_cons]; omega, fun x hx => ?_⟩
          rcases List.mem_cons.1 hx with rfl | hx
          · exact ⟨List.mem_cons_self .., hb⟩
          · exact ⟨List.mem_cons_of_mem _ (h2 x hx).1, (h2 x hx).2⟩
        · obtain ⟨h1, h2⟩ := ih w (List.mem_cons_of_mem _ h)
          exact ⟨by simp only [List.length_cons]; omega, fun x hx => ⟨List.mem_cons_of_mem _ (h2 x hx).1, (h2 x hx).2⟩⟩
theorem splitL_cons_ne {c b : Int} {l w : List Int} {ws : List (List Int)} (hb : ¬ b = c) (h : splitL c l = w :: ws) : splitL c (b :: l) = (b :: w) :: ws := by
  rw [splitL, if_neg hb, h]
theorem splitL_free {c : Int} : ∀ {l : List Int}, c ∉ l → splitL c l = [l]
  | [], _ => rfl
  | b :: l, h => by
    have h1 : ¬ b = c := fun e => h (by rw [e]; exact List.mem_cons_self ..)
    exact splitL_cons_ne h1 (splitL_free (fun hc => h (List.mem_cons_of_mem _ hc)))
abbrev toI (l : List UInt8) : List Int := l.map fun b => (b.toNat : Int)
theorem toI_inj {b c : UInt8} : ((b.toNat : Int) = (c.toNat : Int)) ↔ b = c := ⟨fun h => UInt8.toNat_inj.1 (by omega), fun h => by rw [h]⟩
theorem splitK_L (c : UInt8) : ∀ l : List UInt8, (Lib.splitK [c] 0 (Lib.count l [c]) l).map toI = splitL (c.toNat : Int) (toI l)
  | [] => by
    rw [Lib.count_miss (by simp [Lib.index])]
    rfl
  | b :: l => by
    have ih := splitK_L c l
    by_cases h : b = c
    · subst h
      rw [Lib.count_cons_eq, Nat.add_comm, Lib.splitK]
      have hix : Lib.index (b :: l) [b] = 0 := by rw [Lib.index]; simp [List.isPrefixOf]
      rw [hix]
      simp only [toI, List.map_cons]
      rw [splitL, if_pos rfl, ← ih]
      rfl
    · have hp : ([c] : List UInt8).isPrefixOf (b :: l) = false := by simp [List.isPrefixOf, Ne.symm h]
      have hix : Lib.index (b :: l) [c] = if Lib.index l [c] == -1 then -1 else Lib.index l [c] + 1 := by rw [Lib.index, hp]; simp
      have hb : ¬ ((b.toNat : Int) = (c.toNat : Int)) := fun e => h (toI_inj.1 e)
      rw [Lib.count_cons_ne _ _ _ h]
      simp only [toI, List.map_cons]
      cases hk : Lib.count l [c] with
      | zero =>
        rw [hk] at ih
        rw [splitL_cons_ne hb (w := toI l) (ws := []) ih.symm]
        rfl
      | succ k =>
        rw [hk] at ih
        rw [Lib.splitK] at ih ⊢
        by_cases hm : Lib.index l [c] = -1
        · rw [hm] at ih hix
          rw [hix]
          rw [splitL_cons_ne hb (w := toI l) (ws := []) ih.symm]
          rfl
        · have hge := Lib.index_ge l [c]
          obtain ⟨j, hj⟩ : ∃ j : Nat, Lib.index l [c] = j := ⟨(Lib.index l [c]).toNat, by omega⟩
          have hnb : (Lib.index l [c] == -1) = false := by simpa using hm
          rw [hnb] at ih hix
          rw [hix]
          have h2 : ((if false = true then (-1 : Int) else Lib.index l [c] + 1) == -1) = false := by simp; omega
          rw [h2]
          simp only [Bool.false_eq_true, if_false] at ih ⊢
          rw [hj] at ih ⊢
          have e1 : ((j : Int) + 1).toNat = j + 1 := by omega
          have e2 : ((j : Int)).toNat = j := by omega
          rw [e1]
          rw [e2] at ih
          rw [List.map_cons] at ih
          rw [splitL_cons_ne hb ih.symm, List.map_cons]
          simp only [List.length_singleton, Nat.add_zero, List.take_succ_cons, List.drop_succ_cons, List.map_cons, toI]
theorem map_strs : ∀ (l : List ByteArray), l = ((l.map (·.data.toList)).map toI).map strOfNums
  | [] => rfl
  | s :: l => by
    rw [List.map_cons, List.map_cons, List.map_cons, ← map_strs l]
    congr 1
    exact (str_bytesL s).symm
theorem splitS_L (c : UInt8) (s : ByteArray) : splitS s ⟨#[c]⟩ = (splitL (c.toNat : Int) (bytesL s)).map strOfNums := by
  rw [map_strs (splitS s ⟨#[c]⟩)]
  unfold splitS
  rw [Lib.splitB_data]
  have : Lib.countB s ⟨#[c]⟩ = Lib.count s.data.toList [c] := rfl
  rw [this]
  exact congrArg (List.map strOfNums) (splitK_L c s.data.toList)
end Go.Proofs.YtoaaieiiamdopaaGreatDoor

set_option linter.unusedVariables false
set_option linter.unusedSimpArgs false
set_option maxRecDepth 100000
set_option maxHeartbeats 4000000
namespace Go.Proofs.YtoaaieiiamdopaaGreatDoor
open Go.Eng
theorem right_runs : ∀ {c : List Run} {p : Option Run}, rightFrom p c = true → ∀ {i : Nat} {r : Run}, c[i]? = some r → runP r
  | [], _, _, _, _, h => by simp at h
  | x :: l, p, hr, 0, r, h => by
    simp only [rightFrom, Bool.and_eq_true] at hr
    obtain rfl : x = r := by simpa using h
    exact of_decide_eq_true hr.1.1
  | x :: l, p, hr, i + 1, r, h => by
    simp only [rightFrom, Bool.and_eq_true] at hr
    exact right_runs hr.2 (i := i) (by simpa using h)
/-- A run's word. -/
def runW (r : Run) : List Int := decL r.1.toNat ++ [58] ++ decL r.2.1.toNat ++ (if r.2.1 < r.2.2 then [45] ++ decL r.2.2.toNat else [])
def spT (ws : List (List Int)) : List Int := (ws.map (32 :: ·)).flatten
/-- Words with blanks between. -/
def spc : List (List Int) → List Int
  | [] => []
  | w :: ws => w ++ spT ws
def textL (c : List Run) : List Int := if rightB c then (if c = [] then [45] else spc (c.map runW)) else []
theorem runW_len {r : Run} (h : runP r) : (runW r).length ≤ 41 := by
  have h1 := decL_len 12 r.1.toNat (by omega)
  have h2 := decL_len 12 r.2.1.toNat (by omega)
  have h3 := decL_len 12 r.2.2.toNat (by omega)
  unfold runW
  split <;> simp only [List.length_append, List.length_cons, List.length_nil] <;> omega
theorem spc_len : ∀ (ws : List (List Int)), (∀ w, w ∈ ws → w.length ≤ 41) → (spc ws).length ≤ 42 * ws.length := fun ws => by
  have hT : ∀ (ws : List (List Int)), (∀ w, w ∈ ws → w.length ≤ 41) → (spT ws).length ≤ 42 * ws.length := fun ws => by
    induction ws with
    | nil => intro _; simp [spT]
    | cons w ws ih =>
      intro h
      have h1 := ih (fun x hx => h x (List.mem_cons_of_mem _ hx))
      have h2 := h w (List.mem_cons_self ..)
      have e : spT (w :: ws) = (32 :: w) ++ spT ws := rfl
      rw [e]; simp only [List.length_append, List.length_cons]; omega
  intro h
  cases ws with
  | nil => simp [spc]
  | cons w ws =>
    have h1 := hT ws (fun x hx => h x (List.mem_cons_of_mem _ hx))
    have h2 := h w (List.mem_cons_self ..)
    simp only [spc, List.length_append, List.length_cons]; omega
theorem join_spc (ws : List (List Int)) : joinS (ws.map strOfNums) ⟨#[32]⟩ = strOfNums (spc ws) := by
  unfold joinS
  have e : ∀ l : List Int, (strOfNums l).data.toList = l.map fun n => UInt8.ofNat n.toNat := strOfNums_data
  cases ws with
  | nil => rfl
  | cons w ws =>
    rw [List.map_cons, List.map_cons, Lib.join_cons]
    have h : strOfNums (spc (w :: ws)) = ⟨(((w ++ spT ws).map fun n => UInt8.ofNat n.toNat)).toArray⟩ := by
      show strOfNums (w ++ spT ws) = _
      rw [← e]
    rw [h, List.map_append]
    congr 2
    rw [e]
    congr 1
    unfold Lib.joinTail spT
    rw [List.map_flatten, List.map_map, List.map_map, List.map_map]
    exact congrArg List.flatten (List.map_congr_left fun l _ => by show [32] ++ (strOfNums l).data.toList = _; rw [e]; rfl)
@[reducible] def dtextC : Ctr := {
  X := List Run
  Y := Unit
  args := fun c => [.ro true runT c]
  rw := fun _ => []
  side := fun c => c.length ≤ 1000000
  val := fun _ => ()
  ens := fun _ _ => True
  res := fun c _ => .v (.string (strOfNums (textL c)))
  out := fun _ _ => [] }
@[reducible] def wordsS (c : List Run) : List ByteArray := (c.map runW).map strOfNums
@[reducible] def dtextL (c : List Run) : LA := {
  X := Nat
  pre := fun i => i ≤ c.length
  mu := fun i => c.length - i
  T := fun i => [(3, .sl 2), (13, .ro true runT c), (14, .v (.int .i64 c.length)), (15, .v (.int .i64 (i : Nat)))]
  M := fun i => [(2, .row 9 .str (wordsS (c.take i)))] }
theorem knownT1 : Known Tryz.prog (gOf [(24, drightC), (60, itoaC), (61, joinC)]) :=
  known_cons ⟨dright_ok, Tryz.call24⟩ (known_cons ⟨itoa_ok, Tryz.call60⟩ (known_cons ⟨sjoin_ok, Tryz.call61⟩ (known_nil _)))
theorem dtext_ok : dtextC.ok Tryz.prog 22 := by
  refine ok_of_vc (An := fun x => anOf [(0, .loop (dtextL x))]) knownT1 mo Tryz.func22 (by kernel_rfl) (by kernel_rfl) (fun _ _ => trivial) (fun (c : List Run) hs => ?_)
  have hs : c.length ≤ 1000000 := hs
  have hs2 : c.length ≤ 274877906944 := by omega
  cases hr : rightB c with
  | false =>
    have ht : strOfNums (textL c) = ⟨#[]⟩ := by unfold textL; rw [hr]; rfl
    have lm := And.intro hr ht
    ((repeat' ((conv => whnf) <;> first | exact True.intro | (guard_target =~ Fork _ _ _; first | refine F1 ?_ | refine F2 ?_ | refine F3 (fun h => ?_) fun h => ?_) | (guard_target =~ Ar _ _ _; first | refine A1 ?_ | refine A2 ?_ | refine A3 ?_) | (guard_target =~ AskL _ _; first | refine L1 ?_) | (guard_target =~ Go.Eng.Ask _ _; first | refine K1 ?_) | (guard_target =~ All' _ _; first | (refine Y2 fun y he he' hy => ?_; (try dsimp only at he he' hy)) | (refine Y1 fun y he hy => ?_; (try with_reducible conv at he => (rhs; whnf)); (try dsimp only at he hy)) | (refine All'.mk ?_; intro y hy)) | refine F4 (fun h => ?_) fun h => ?_ | refine R1 ?_ | refine Q1 ?_ | fail)); all_goals (conv => whnf))
    refine CallP.mk (C := drightC) c ?_
    exact G1
  | true =>
    by_cases h0 : c = []
    · subst h0
      have ht : strOfNums (textL []) = ⟨#[45]⟩ := rfl
      have hln : ([] : List Run).length = 0 := rfl
      have lm := And.intro hr ht
      ((repeat' ((conv => whnf) <;> first | exact True.intro | (guard_target =~ Fork _ _ _; first | refine F1 ?_ | refine F2 ?_ | refine F3 (fun h => ?_) fun h => ?_) | (guard_target =~ Ar _ _ _; first | refine A1 ?_ | refine A2 ?_ | refine A3 ?_) | (guard_target =~ AskL _ _; first | refine L1 ?_) | (guard_target =~ Go.Eng.Ask _ _; first | refine K1 ?_) | (guard_target =~ All' _ _; first | (refine Y2 fun y he he' hy => ?_; (try dsimp only at he he' hy)) | (refine Y1 fun y he hy => ?_; (try with_reducible conv at he => (rhs; whnf)); (try dsimp only at he hy)) | (refine All'.mk ?_; intro y hy)) | refine F4 (fun h => ?_) fun h => ?_ | refine R1 ?_ | refine Q1 ?_ | fail)); all_goals (conv => whnf))
      refine CallP.mk (C := drightC) [] ?_
      exact G1
    · have ht : textL c = spc (c.map runW) := by unfold textL; rw [hr, if_neg h0]; rfl
      have hp : 0 < c.length := List.length_pos_iff.2 h0
      have lm := And.intro hr ht
      ((repeat' ((conv => whnf) <;> first | exact True.intro | (guard_target =~ Fork _ _ _; first | refine F1 ?_ | refine F2 ?_ | refine F3 (fun h => ?_) fun h => ?_) | (guard_target =~ Ar _ _ _; first | refine A1 ?_ | refine A2 ?_ | refine A3 ?_) | (guard_target =~ AskL _ _; first | refine L1 ?_) | (guard_target =~ Go.Eng.Ask _ _; first | refine K1 ?_) | (guard_target =~ All' _ _; first | (refine Y2 fun y he he' hy => ?_; (try dsimp only at he he' hy)) | (refine Y1 fun y he hy => ?_; (try with_reducible conv at he => (rhs; whnf)); (try dsimp only at he hy)) | (refine All'.mk ?_; intro y hy)) | refine F4 (fun h => ?_) fun h => ?_ | refine R1 ?_ | refine Q1 ?_ | fail)); all_goals (conv => whnf))
      refine CallP.mk (C := drightC) c ?_
      ((repeat' ((conv => whnf) <;> first | exact True.intro | (guard_target =~ Fork _ _ _; first | refine F1 ?_ | refine F2 ?_ | refine F3 (fun h => ?_) fun h => ?_) | (guard_target =~ Ar _ _ _; first | refine A1 ?_ | refine A2 ?_ | refine A3 ?_) | (guard_target =~ AskL _ _; first | refine L1 ?_) | (guard_target =~ Go.Eng.Ask _ _; first | refine K1 ?_) | (guard_target =~ All' _ _; first | (refine Y2 fun y he he' hy => ?_; (try dsimp only at he he' hy)) | (refine Y1 fun y he hy => ?_; (try with_reducible conv at he => (rhs; whnf)); (try dsimp only at he hy)) | (refine All'.mk ?_; intro y hy)) | refine F4 (fun h => ?_) fun h => ?_ | refine R1 ?_ | refine Q1 ?_ | fail)); all_goals (conv => whnf))
      refine Some'.mk (0 : Nat) ?_
      ((repeat' ((conv => whnf) <;> first | exact True.intro | (guard_target =~ Fork _ _ _; first | refine F1 ?_ | refine F2 ?_ | refine F3 (fun h => ?_) fun h => ?_) | (guard_target =~ Ar _ _ _; first | refine A1 ?_ | refine A2 ?_ | refine A3 ?_) | (guard_target =~ AskL _ _; first | refine L1 ?_) | (guard_target =~ Go.Eng.Ask _ _; first | refine K1 ?_) | (guard_target =~ All' _ _; first | (refine Y2 fun y he he' hy => ?_; (try dsimp only at he he' hy)) | (refine Y1 fun y he hy => ?_; (try with_reducible conv at he => (rhs; whnf)); (try dsimp only at he hy)) | (refine All'.mk ?_; intro y hy)) | refine F4 (fun h => ?_) fun h => ?_ | refine R1 ?_ | refine Q1 ?_ | fail)); all_goals (conv => whnf))
      refine AllI.mk ?_
      rintro (i : Nat) hi
      have hi : i ≤ c.length := hi
      by_cases hie : i = c.length
      · subst hie
        have hwl : wordsS (c.take c.length) = (c.map runW).map strOfNums := by show ((c.take c.length).map runW).map strOfNums = _; rw [List.take_length]
        have hj : joinS (wordsS (c.take c.length)) ⟨#[32]⟩ = strOfNums (spc (c.map runW)) := by rw [hwl]; exact join_spc _
        have hjk : (wordsS (c.take c.length)).length ≤ 140737488355328 ∧ (joinS (wordsS (c.take c.length)) ⟨#[32]⟩).size ≤ 140737488355328 := by
          rw [hj, str_size, hwl]
          have := spc_len (c.map runW) (fun w hw => by
            obtain ⟨r, hr1, rfl⟩ := List.mem_map.1 hw
            obtain ⟨k, hk⟩ := List.getElem?_of_mem hr1
            exact runW_len (right_runs hr hk))
          rw [List.length_map] at this
          rw [List.length_map, List.length_map]; omega
        clear hwl
        have lm := And.intro hr (And.intro ht hj)
        ((repeat' ((conv => whnf) <;> first | exact True.intro | (guard_target =~ Fork _ _ _; first | refine F1 ?_ | refine F2 ?_ | refine F3 (fun h => ?_) fun h => ?_) | (guard_target =~ Ar _ _ _; first | refine A1 ?_ | refine A2 ?_ | refine A3 ?_) | (guard_target =~ AskL _ _; first | refine L1 ?_) | (guard_target =~ Go.Eng.Ask _ _; first | refine K1 ?_) | (guard_target =~ All' _ _; first | (refine Y2 fun y he he' hy => ?_; (try dsimp only at he he' hy)) | (refine Y1 fun y he hy => ?_; (try with_reducible conv at he => (rhs; whnf)); (try dsimp only at he hy))) | refine F4 (fun h => ?_) fun h => ?_ | refine R1 ?_ | refine Q1 ?_ | fail)); all_goals (conv => whnf))
        refine CallP.mk (C := joinC) ⟨wordsS (c.take c.length), ⟨#[32]⟩⟩ ?_
        exact G1
      · obtain ⟨⟨m, f, t⟩, hce⟩ : ∃ e, c[i]? = some e := ⟨_, List.getElem?_eq_getElem (by omega)⟩
        have hrp : runP (m, f, t) := right_runs hr hce
        obtain ⟨q1, q2, q3, q4, q5⟩ : 0 ≤ m ∧ m ≤ 7 ∧ 1 ≤ f ∧ f ≤ t ∧ t ≤ 1099511627776 := hrp
        have hmd : itoaS m = strOfNums (decL m.toNat) := itoa_dec q1
        have hfd : itoaS f = strOfNums (decL f.toNat) := itoa_dec (by omega)
        have htd : itoaS t = strOfNums (decL t.toNat) := itoa_dec (by omega)
        have hml := decL_len 12 m.toNat (by omega)
        have hfl := decL_len 12 f.toNat (by omega)
        have htl := decL_len 12 t.toNat (by omega)
        ((repeat' ((conv => whnf) <;> first | exact True.intro | (guard_target =~ Fork _ _ _; first | refine F1 ?_ | refine F2 ?_ | refine F3 (fun h => ?_) fun h => ?_) | (guard_target =~ Ar _ _ _; first | refine A1 ?_ | refine A2 ?_ | refine A3 ?_) | (guard_target =~ AskL _ _; first | refine L1 ?_) | (guard_target =~ Go.Eng.Ask _ _; first | refine K1 ?_) | (guard_target =~ All' _ _; first | (refine Y2 fun y he he' hy => ?_; (try dsimp only at he he' hy)) | (refine Y1 fun y he hy => ?_; (try with_reducible conv at he => (rhs; whnf)); (try dsimp only at he hy))) | refine F4 (fun h => ?_) fun h => ?_ | refine R1 ?_ | refine Q1 ?_ | fail)); all_goals (conv => whnf))
        refine All'.mk ?_; rintro (e' : Run) he'
        obtain rfl : (m, f, t) = e' := Option.some.inj (hce.symm.trans he')
        clear he'
        ((repeat' ((conv => whnf) <;> first | exact True.intro | (guard_target =~ Fork _ _ _; first | refine F1 ?_ | refine F2 ?_ | refine F3 (fun h => ?_) fun h => ?_) | (guard_target =~ Ar _ _ _; first | refine A1 ?_ | refine A2 ?_ | refine A3 ?_) | (guard_target =~ AskL _ _; first | refine L1 ?_) | (guard_target =~ Go.Eng.Ask _ _; first | refine K1 ?_) | (guard_target =~ All' _ _; first | (refine Y2 fun y he he' hy => ?_; (try dsimp only at he he' hy)) | (refine Y1 fun y he hy => ?_; (try with_reducible conv at he => (rhs; whnf)); (try dsimp only at he hy))) | refine F4 (fun h => ?_) fun h => ?_ | refine R1 ?_ | refine Q1 ?_ | fail)); all_goals (conv => whnf))
        have h58 : (⟨#[58]⟩ : ByteArray) = strOfNums [58] := rfl
        have h45 : (⟨#[45]⟩ : ByteArray) = strOfNums [45] := rfl
        have hz1 : (itoaS m).size + (⟨#[58]⟩ : ByteArray).size ≤ 9223372036854775807 := by rw [hmd, h58, str_size, str_size]; simp only [List.length_cons, List.length_nil]; omega
        have hz2 : (itoaS m ++ (⟨#[58]⟩ : ByteArray)).size + (itoaS f).size ≤ 9223372036854775807 := by rw [hmd, hfd, h58, str_cat, str_size, str_size]; simp only [List.length_append, List.length_cons, List.length_nil]; omega
        have hz3 : (⟨#[45]⟩ : ByteArray).size + (itoaS t).size ≤ 9223372036854775807 := by rw [htd, h45, str_size, str_size]; simp only [List.length_cons, List.length_nil]; omega
        have hz4 : (itoaS m ++ (⟨#[58]⟩ : ByteArray) ++ itoaS f).size + ((⟨#[45]⟩ : ByteArray) ++ itoaS t).size ≤ 9223372036854775807 := by rw [hmd, hfd, htd, h58, h45, str_cat, str_cat, str_cat, str_size, str_size]; simp only [List.length_append, List.length_cons, List.length_nil]; omega
        refine CallP.mk (C := itoaC) m ?_
        ((repeat' ((conv => whnf) <;> first | exact True.intro | (guard_target =~ Fork _ _ _; first | refine F1 ?_ | refine F2 ?_ | refine F3 (fun h => ?_) fun h => ?_) | (guard_target =~ Ar _ _ _; first | refine A1 ?_ | refine A2 ?_ | refine A3 ?_) | (guard_target =~ AskL _ _; first | refine L1 ?_) | (guard_target =~ Go.Eng.Ask _ _; first | refine K1 ?_) | (guard_target =~ All' _ _; first | (refine Y2 fun y he he' hy => ?_; (try dsimp only at he he' hy)) | (refine Y1 fun y he hy => ?_; (try with_reducible conv at he => (rhs; whnf)); (try dsimp only at he hy)) | (refine All'.mk ?_; intro y hy)) | refine F4 (fun h => ?_) fun h => ?_ | refine R1 ?_ | refine Q1 ?_ | fail)); all_goals (conv => whnf))
        have hwn : (wordsS (c.take i)).length = i := by rw [List.length_map, List.length_map, List.length_take]; omega
        have hap : ∀ x : ByteArray, (wordsS (c.take i)).length + [x].length ≤ 274877906944 := fun x => by rw [hwn, List.length_singleton]; omega
        have hstep : wordsS (c.take (i + 1)) = wordsS (c.take i) ++ [strOfNums (runW (m, f, t))] := by
          show ((c.take (i + 1)).map runW).map strOfNums = _
          rw [take_get hce, List.map_append, List.map_append]; rfl
        have hpr : (dtextL c).pre (i + 1) := by show i + 1 ≤ c.length; omega
        have hmu : (dtextL c).mu (i + 1) < (dtextL c).mu i := by show c.length - (i + 1) < c.length - i; omega
        refine CallP.mk (C := itoaC) f ?_
        ((repeat' ((conv => whnf) <;> first | exact True.intro | (guard_target =~ Fork _ _ _; first | refine F1 ?_ | refine F2 ?_ | refine F3 (fun h => ?_) fun h => ?_) | (guard_target =~ Ar _ _ _; first | refine A1 ?_ | refine A2 ?_ | refine A3 ?_) | (guard_target =~ AskL _ _; first | refine L1 ?_) | (guard_target =~ Go.Eng.Ask _ _; first | refine K1 ?_) | (guard_target =~ All' _ _; first | (refine Y2 fun y he he' hy => ?_; (try dsimp only at he he' hy)) | (refine Y1 fun y he hy => ?_; (try with_reducible conv at he => (rhs; whnf)); (try dsimp only at he hy)) | (refine All'.mk ?_; intro y hy)) | refine F4 (fun h => ?_) fun h => ?_ | refine R1 ?_ | refine Q1 ?_ | fail)); all_goals (conv => whnf))
        · refine CallP.mk (C := itoaC) t ?_
          ((repeat' ((conv => whnf) <;> first | exact True.intro | (guard_target =~ Fork _ _ _; first | refine F1 ?_ | refine F2 ?_ | refine F3 (fun h => ?_) fun h => ?_) | (guard_target =~ Ar _ _ _; first | refine A1 ?_ | refine A2 ?_ | refine A3 ?_) | (guard_target =~ AskL _ _; first | refine L1 ?_) | (guard_target =~ Go.Eng.Ask _ _; first | refine K1 ?_) | (guard_target =~ All' _ _; first | (refine Y2 fun y he he' hy => ?_; (try dsimp only at he he' hy)) | (refine Y1 fun y he hy => ?_; (try with_reducible conv at he => (rhs; whnf)); (try dsimp only at he hy)) | (refine All'.mk ?_; intro y hy)) | refine F4 (fun h => ?_) fun h => ?_ | refine R1 ?_ | refine Q1 ?_ | fail)); all_goals (conv => whnf))
          refine Some'.mk (i + 1 : Nat) ?_
          have hrw : runW (m, f, t) = decL m.toNat ++ [58] ++ decL f.toNat ++ ([45] ++ decL t.toNat) := by
            have hft : f < t := by assumption
            show decL m.toNat ++ [58] ++ decL f.toNat ++ (if f < t then [45] ++ decL t.toNat else []) = _
            rw [if_pos hft]
          ((repeat' ((conv => whnf) <;> first | exact True.intro | (guard_target =~ Fork _ _ _; first | refine F1 ?_ | refine F2 ?_ | refine F3 (fun h => ?_) fun h => ?_) | (guard_target =~ Ar _ _ _; first | refine A1 ?_ | refine A2 ?_ | refine A3 ?_) | (guard_target =~ Go.Eng.Ask _ _; first | refine K1 ?_) | (guard_target =~ All' _ _; first | (refine Y2 fun y he he' hy => ?_; (try dsimp only at he he' hy)) | (refine Y1 fun y he hy => ?_; (try with_reducible conv at he => (rhs; whnf)); (try dsimp only at he hy)) | (refine All'.mk ?_; intro y hy)) | refine F4 (fun h => ?_) fun h => ?_ | refine R1 ?_ | refine Q1 ?_ | fail)); all_goals (conv => whnf))
          refine AskL.mk ?_ (Ask.mk hpr (Ask.mk hmu trivial))
          (dsimp only [conj]; repeat' apply And.intro) <;> first | rfl | (show SV.ro true Ty.str _ = SV.ro true Ty.str (wordsS (c.take (i + 1))); rw [hstep, hrw, hmd, hfd, htd, h58, h45, str_cat, str_cat, str_cat, str_cat])
        · refine Some'.mk (i + 1 : Nat) ?_
          have hrw : runW (m, f, t) = decL m.toNat ++ [58] ++ decL f.toNat := by
            have hft : ¬ f < t := by assumption
            show decL m.toNat ++ [58] ++ decL f.toNat ++ (if f < t then [45] ++ decL t.toNat else []) = _
            rw [if_neg hft, List.append_nil]
          ((repeat' ((conv => whnf) <;> first | exact True.intro | (guard_target =~ Fork _ _ _; first | refine F1 ?_ | refine F2 ?_ | refine F3 (fun h => ?_) fun h => ?_) | (guard_target =~ Ar _ _ _; first | refine A1 ?_ | refine A2 ?_ | refine A3 ?_) | (guard_target =~ Go.Eng.Ask _ _; first | refine K1 ?_) | (guard_target =~ All' _ _; first | (refine Y2 fun y he he' hy => ?_; (try dsimp only at he he' hy)) | (refine Y1 fun y he hy => ?_; (try with_reducible conv at he => (rhs; whnf)); (try dsimp only at he hy)) | (refine All'.mk ?_; intro y hy)) | refine F4 (fun h => ?_) fun h => ?_ | refine R1 ?_ | refine Q1 ?_ | fail)); all_goals (conv => whnf))
          refine AskL.mk ?_ (Ask.mk hpr (Ask.mk hmu trivial))
          (dsimp only [conj]; repeat' apply And.intro) <;> first | rfl | (show SV.ro true Ty.str _ = SV.ro true Ty.str (wordsS (c.take (i + 1))); rw [hstep, hrw, hmd, hfd, h58, str_cat, str_cat])
end Go.Proofs.YtoaaieiiamdopaaGreatDoor

set_option linter.unusedVariables false
set_option linter.unusedSimpArgs false
set_option maxRecDepth 100000
set_option maxHeartbeats 4000000
namespace Go.Proofs.YtoaaieiiamdopaaGreatDoor
open Go.Eng
end Go.Proofs.YtoaaieiiamdopaaGreatDoor

namespace Go.Proofs.YtoaaieiiamdopaaGreatDoor
open Go.Shelf Go.RowKit Go.Sort Go.Lib Go.Eng
set_option linter.unusedVariables false
set_option linter.unusedSimpArgs false
def cutS (s sep : ByteArray) : ByteArray × ByteArray × Bool :=
  (⟨(Lib.cut s.data.toList sep.data.toList).1.toArray⟩, ⟨(Lib.cut s.data.toList sep.data.toList).2.1.toArray⟩, (Lib.cut s.data.toList sep.data.toList).2.2)
@[reducible] def cutC : Ctr := {
  X := ByteArray × ByteArray
  Y := Unit
  args := fun x => [.v (.string x.1), .v (.string x.2)]
  rw := fun _ => []
  side := fun x => x.1.size < 4294967281
  val := fun _ => ()
  ens := fun _ _ => True
  res := fun x _ => .tuple [.v (.string (cutS x.1 x.2).1), .v (.string (cutS x.1 x.2).2.1), .v (.bool (cutS x.1 x.2).2.2)]
  out := fun _ _ => [] }
theorem sat_tuple3 (E : Env) (w : World) (a b c : Value) : Sat E w (.tuple [.v a, .v b, .v c]) (.tuple #[a, b, c]) :=
  .tuple _ _ (fun j => (#[a, b, c] : Array Value).getD j undef) rfl (fun j hj => by
    match j, hj with
    | 0, _ => rfl
    | 1, _ => rfl
    | 2, _ => rfl) (fun j sv hj => by
    match j, hj with
    | 0, hj => obtain rfl : SV.v a = sv := by simpa using hj
               exact .v _
    | 1, hj => obtain rfl : SV.v b = sv := by simpa using hj
               exact .v _
    | 2, hj => obtain rfl : SV.v c = sv := by simpa using hj
               exact .v _
    | j + 3, hj => simp at hj)
theorem cut_ok : cutC.ok Tryz.prog 55 := by
  refine ok_of_walk (fun _ => rfl) (fun _ => rfl) (fun x hs => ⟨trivial, fun E w vals hsz hv hg hI => ?_⟩)
  obtain ⟨s, t⟩ := x
  have h1 : s.size < 4294967281 := hs
  rw [vals_two hsz, sat_v (hv 0 _ rfl), sat_v (hv 1 _ rfl)]
  obtain ⟨a, ⟨m, ha⟩, hm⟩ := glob_some (g := 0) hg (List.mem_cons_of_mem _ (List.mem_cons_of_mem _ (List.mem_cons_of_mem _ (List.mem_cons_self ..))))
  refine (Tryz.strings_Cut s t m w h1 (hm _ ha)).mono ?_
  rintro e w' ⟨rfl, n, rfl⟩
  exact ⟨_, rfl, sat_tuple3 .., ⟨rfl, rfl, rfl, Nat.le_refl _, fun _ _ => rfl⟩, fun h => h.elim⟩
end Go.Proofs.YtoaaieiiamdopaaGreatDoor

set_option linter.unusedVariables false
set_option linter.unusedSimpArgs false
set_option maxRecDepth 100000
set_option maxHeartbeats 4000000
namespace Go.Proofs.YtoaaieiiamdopaaGreatDoor
open Go.Eng
theorem splitL_app {c : Int} : ∀ (a l : List Int), c ∉ a → splitL c (a ++ c :: l) = a :: splitL c l
  | [], l, _ => by simp [splitL]
  | b :: a, l, h => by
    have h1 : ¬ b = c := fun e => h (by rw [e]; exact List.mem_cons_self ..)
    rw [List.cons_append, splitL_cons_ne h1 (splitL_app a l (fun hc => h (List.mem_cons_of_mem _ hc)))]
theorem decL_isD : ∀ n : Nat, (decL n).all isD = true := fun n => by
  induction n using Nat.strongRecOn with
  | _ n ih =>
    by_cases h : n < 10
    · rw [decL_small h]; simp only [List.all_cons, List.all_nil, Bool.and_true, isD]; exact decide_eq_true (by omega)
    · rw [decL_great h, List.all_append, ih (n / 10) (by omega)]
      simp only [List.all_cons, List.all_nil, Bool.and_true, Bool.true_and, isD]; exact decide_eq_true (by omega)
theorem decL_ne (n : Nat) : decL n ≠ [] := by
  by_cases h : n < 10
  · rw [decL_small h]; simp
  · rw [decL_great h]; simp
theorem numV_dec : ∀ n : Nat, numV (decL n) = n := fun n => by
  induction n using Nat.strongRecOn with
  | _ n ih =>
    by_cases h : n < 10
    · rw [decL_small h]; simp [numV]; omega
    · rw [decL_great h, numV_snoc, ih (n / 10) (by omega)]; omega
theorem parse_fold : ∀ (l : List UInt8) (acc k : Nat), acc < 10 ^ k → l.length + k ≤ 18 → (toI l).all isD = true → ∃ u : Nat, Lib.parseUint10 acc l = .ok u ∧ (u : Int) = (toI l).foldl (fun n c => n * 10 + (c - 48)) (acc : Int) ∧ u < 10 ^ (l.length + k)
  | [], acc, k, h, _, _ => ⟨acc, rfl, rfl, by simpa using h⟩
  | c :: l, acc, k, h, hl, ha => by
    simp only [toI, List.map_cons, List.all_cons, Bool.and_eq_true] at ha
    have hc : 48 ≤ c.toNat ∧ c.toNat ≤ 57 := by
      have := ha.1
      simp only [isD, decide_eq_true_eq] at this
      omega
    have hl' : l.length + (k + 1) ≤ 18 := by simp only [List.length_cons] at hl; omega
    have hp : 10 ^ k ≤ 10 ^ 17 := Nat.pow_le_pow_right (by decide) (by omega)
    have e17 : (10 : Nat) ^ 17 = 100000000000000000 := by decide
    obtain ⟨u, h1, h2, h3⟩ := parse_fold l (acc * 10 + (c.toNat - 48)) (k + 1) (by rw [Nat.pow_succ]; omega) hl' ha.2
    refine ⟨u, ?_, ?_, ?_⟩
    · rw [Lib.parseUint10, if_pos hc, if_neg (by omega), if_neg (by omega)]; exact h1
    · rw [h2]
      show _ = (toI l).foldl _ ((acc : Int) * 10 + ((c.toNat : Int) - 48))
      congr 1; omega
    · rw [List.length_cons, show l.length + 1 + k = l.length + (k + 1) by omega]; exact h3
theorem atoi_num {s : ByteArray} (h : (bytesL s).all isD = true) (h0 : 1 ≤ s.size) (h1 : s.size ≤ 18) : atoiN s = numV (bytesL s) := by
  have hsz : s.data.toList.length = s.size := by simp
  obtain ⟨u, p1, p2, p3⟩ := parse_fold s.data.toList 0 0 (by decide) (by omega) h
  have hu : u < 9223372036854775808 := by
    have : (10 : Nat) ^ (s.data.toList.length + 0) ≤ 10 ^ 18 := Nat.pow_le_pow_right (by decide) (by omega)
    have e18 : (10 : Nat) ^ 18 = 1000000000000000000 := by decide
    omega
  cases hl : s.data.toList with
  | nil => rw [hl] at hsz; simp at hsz; omega
  | cons c r =>
    have hc : isD (c.toNat : Int) = true := by
      have : (toI s.data.toList).all isD = true := h
      rw [hl] at this
      simp only [toI, List.map_cons, List.all_cons, Bool.and_eq_true] at this
      exact this.1
    simp only [isD, decide_eq_true_eq] at hc
    have e : Lib.atoiAll s.data.toList = .ok (u : Int) := by
      rw [hl, Lib.atoiAll_plain c r (by omega) (by omega), ← hl]
      have hm : Lib.parseMag s.data.toList = .ok u := by
        unfold Lib.parseMag
        rw [if_neg (by rw [hl]; simp)]; exact p1
      rw [hm]
      simp only [Lib.signless]
      rw [if_neg (by omega)]
    unfold atoiN
    rw [e]
    exact p2
theorem atoi_dec {n : Int} (h : 0 ≤ n ∧ n ≤ 1099511627776) : atoiN (strOfNums (decL n.toNat)) = n := by
  have hd := decL_isD n.toNat
  have hb : okB (decL n.toNat) := fun c hc => by
    have := List.all_eq_true.1 hd c hc
    simp only [isD, decide_eq_true_eq] at this
    omega
  have h1 := List.length_pos_iff.2 (decL_ne n.toNat)
  have h2 := decL_len 12 n.toNat (by omega)
  rw [atoi_num (by rw [bytes_str hb]; exact hd) (by rw [str_size]; omega) (by rw [str_size]; omega), bytes_str hb, numV_dec]
  omega

theorem split_spc : ∀ (ws : List (List Int)) (w : List Int), 32 ∉ w → (∀ t, t ∈ ws → 32 ∉ t) → splitL 32 (spc (w :: ws)) = w :: ws
  | [], w, hw, _ => by
    have e : spc [w] = w := by simp [spc, spT]
    rw [e]; exact splitL_free hw
  | v :: ws, w, hw, h => by
    have e : spc (w :: v :: ws) = w ++ 32 :: spc (v :: ws) := by simp [spc, spT]
    rw [e, splitL_app _ _ hw, split_spc ws v (h v (List.mem_cons_self ..)) (fun t ht => h t (List.mem_cons_of_mem _ ht))]
theorem index_cons (b c : UInt8) (l : List UInt8) (h : ¬ b = c) : Lib.index (b :: l) [c] = if Lib.index l [c] == -1 then -1 else Lib.index l [c] + 1 := by
  have hp : ([c] : List UInt8).isPrefixOf (b :: l) = false := by simp [List.isPrefixOf, Ne.symm h]
  rw [Lib.index, hp]; simp
theorem index_free : ∀ (c : UInt8) (l : List UInt8), c ∉ l → Lib.index l [c] = -1
  | c, [], _ => by simp [Lib.index]
  | c, b :: l, h => by
    rw [index_cons b c l (fun e => h (by rw [e]; exact List.mem_cons_self ..)), index_free c l (fun hc => h (List.mem_cons_of_mem _ hc))]; rfl
theorem index_app : ∀ (c : UInt8) (a b : List UInt8), c ∉ a → Lib.index (a ++ c :: b) [c] = (a.length : Nat)
  | c, [], b, _ => by simp [Lib.index, List.isPrefixOf]
  | c, x :: a, b, h => by
    have h1 : ¬ x = c := fun e => h (by rw [e]; exact List.mem_cons_self ..)
    rw [List.cons_append, index_cons x c _ h1, index_app c a b (fun hc => h (List.mem_cons_of_mem _ hc))]
    have : (((a.length : Nat) : Int) == -1) = false := by simp
    rw [this]; simp
theorem strs_data (l : List Int) : (strOfNums l).data.toList = l.map fun n => UInt8.ofNat n.toNat := strOfNums_data l
theorem u8_mem {c : Int} {l : List Int} (hl : okB l) (h0 : 0 ≤ c) (h1 : c < 256) (h : c ∉ l) : UInt8.ofNat c.toNat ∉ l.map fun n => UInt8.ofNat n.toNat := fun hm => by
  obtain ⟨x, hx, e⟩ := List.mem_map.1 hm
  have hk := hl x hx
  have e2 := congrArg UInt8.toNat e
  rw [UInt8.toNat_ofNat', UInt8.toNat_ofNat', Nat.mod_eq_of_lt (by omega), Nat.mod_eq_of_lt (by omega)] at e2
  have : x = c := by omega
  exact h (this ▸ hx)
theorem cut_free {c : Int} {l : List Int} (hl : okB l) (h0 : 0 ≤ c) (h1 : c < 256) (h : c ∉ l) : cutS (strOfNums l) (strOfNums [c]) = (strOfNums l, ⟨#[]⟩, false) := by
  unfold cutS Lib.cut
  have e := index_free (UInt8.ofNat c.toNat) _ (u8_mem hl h0 h1 h)
  have e1 : (strOfNums [c]).data.toList = [UInt8.ofNat c.toNat] := strs_data [c]
  rw [e1, strs_data, e, if_neg (by omega), ← strs_data]
theorem cut_at {c : Int} {a b : List Int} (hl : okB a) (h0 : 0 ≤ c) (h1 : c < 256) (h : c ∉ a) : cutS (strOfNums (a ++ [c] ++ b)) (strOfNums [c]) = (strOfNums a, strOfNums b, true) := by
  unfold cutS Lib.cut
  have e1 : (strOfNums [c]).data.toList = [UInt8.ofNat c.toNat] := strs_data [c]
  have e2 : (strOfNums (a ++ [c] ++ b)).data.toList = (strOfNums a).data.toList ++ UInt8.ofNat c.toNat :: (strOfNums b).data.toList := by
    rw [strs_data, strs_data, strs_data]; simp
  have e := index_app (UInt8.ofNat c.toNat) (strOfNums a).data.toList (strOfNums b).data.toList (by rw [strs_data]; exact u8_mem hl h0 h1 h)
  rw [e1, e2, e, if_pos (by omega)]
  have e3 : (((strOfNums a).data.toList.length : Nat) : Int).toNat = (strOfNums a).data.toList.length := by omega
  have d1 : ((strOfNums a).data.toList ++ UInt8.ofNat c.toNat :: (strOfNums b).data.toList).take (strOfNums a).data.toList.length = (strOfNums a).data.toList := List.take_left
  have d2 : ((strOfNums a).data.toList ++ UInt8.ofNat c.toNat :: (strOfNums b).data.toList).drop ((strOfNums a).data.toList.length + [UInt8.ofNat c.toNat].length) = (strOfNums b).data.toList := by rw [← List.drop_drop, List.drop_left]; rfl
  rw [e3]
  dsimp only
  rw [d1, d2]
theorem dec_free {n : Nat} {c : Int} (h : isD c = false) : c ∉ decL n := fun hc => by
  have := List.all_eq_true.1 (decL_isD n) c hc
  rw [h] at this; cases this
theorem okB_dec (n : Nat) : okB (decL n) := fun c hc => by
  have := List.all_eq_true.1 (decL_isD n) c hc
  simp only [isD, decide_eq_true_eq] at this
  omega
def wordR (w : ByteArray) : Run :=
  (atoiN (cutS w (strOfNums [58])).1, atoiN (cutS (cutS w (strOfNums [58])).2.1 (strOfNums [45])).1,
    if (cutS (cutS w (strOfNums [58])).2.1 (strOfNums [45])).2.2 then atoiN (cutS (cutS w (strOfNums [58])).2.1 (strOfNums [45])).2.1 else atoiN (cutS (cutS w (strOfNums [58])).2.1 (strOfNums [45])).1)
theorem wordR_runW {r : Run} (h : runP r) : wordR (strOfNums (runW r)) = r := by
  obtain ⟨m, f, t⟩ := r
  obtain ⟨q1, q2, q3, q4, q5⟩ : 0 ≤ m ∧ m ≤ 7 ∧ 1 ≤ f ∧ f ≤ t ∧ t ≤ 1099511627776 := h
  have hm : atoiN (strOfNums (decL m.toNat)) = m := atoi_dec ⟨q1, by omega⟩
  have hf : atoiN (strOfNums (decL f.toNat)) = f := atoi_dec ⟨by omega, by omega⟩
  have ht : atoiN (strOfNums (decL t.toNat)) = t := atoi_dec ⟨by omega, by omega⟩
  have e1 : runW (m, f, t) = decL m.toNat ++ [58] ++ (decL f.toNat ++ (if f < t then [45] ++ decL t.toNat else [])) := by
    unfold runW; simp only [List.append_assoc]
  have c1 := cut_at (b := decL f.toNat ++ (if f < t then [45] ++ decL t.toNat else [])) (okB_dec m.toNat) (c := 58) (by omega) (by omega) (dec_free (by decide))
  unfold wordR
  rw [e1, c1]
  dsimp only
  by_cases hft : f < t
  · rw [if_pos hft]
    have c2 := cut_at (b := decL t.toNat) (okB_dec f.toNat) (c := 45) (by omega) (by omega) (dec_free (by decide))
    rw [← List.append_assoc, c2]
    dsimp only
    rw [hm, hf, ht]; rfl
  · rw [if_neg hft, List.append_nil]
    have c2 := cut_free (okB_dec f.toNat) (c := 45) (by omega) (by omega) (dec_free (by decide))
    rw [c2]
    dsimp only
    rw [hm, hf]
    have : f = t := by omega
    rw [this]; rfl
theorem okB_runW (r : Run) : okB (runW r) := by
  unfold runW
  refine okB_app (okB_app (okB_app (okB_dec _) ?_) (okB_dec _)) ?_
  · intro c hc; rcases List.mem_singleton.1 hc with rfl; omega
  · split
    · refine okB_app ?_ (okB_dec _)
      intro c hc; rcases List.mem_singleton.1 hc with rfl; omega
    · intro c hc; cases hc
theorem runW_free (r : Run) : (32 : Int) ∉ runW r := by
  unfold runW
  simp only [List.mem_append, List.mem_singleton, not_or]
  refine ⟨⟨⟨dec_free (by decide), by decide⟩, dec_free (by decide)⟩, ?_⟩
  split
  · simp only [List.mem_append, List.mem_singleton, not_or]
    exact ⟨by decide, dec_free (by decide)⟩
  · exact fun h => nomatch h
theorem okB_spc : ∀ ws : List (List Int), (∀ w, w ∈ ws → okB w) → okB (spc ws) := fun ws h => by
  have hT : ∀ ws : List (List Int), (∀ w, w ∈ ws → okB w) → okB (spT ws) := fun ws h c hc => by
    unfold spT at hc
    obtain ⟨w, hw, hcw⟩ := List.mem_flatten.1 hc
    obtain ⟨v, hv, rfl⟩ := List.mem_map.1 hw
    rcases List.mem_cons.1 hcw with rfl | hcw
    · omega
    · exact h v hv c hcw
  cases ws with
  | nil => intro c hc; cases hc
  | cons w ws => exact okB_app (h w (List.mem_cons_self ..)) (hT ws (fun v hv => h v (List.mem_cons_of_mem _ hv)))
/-- The clock that a text is read as. -/
def parse0 (s : ByteArray) : List Run := (splitS s ⟨#[32]⟩).map wordR
theorem parse0_text {c : List Run} (h : rightB c = true) (h0 : c ≠ []) : parse0 (strOfNums (textL c)) = c := by
  have ht : textL c = spc (c.map runW) := by unfold textL; rw [h, if_neg h0]; rfl
  have hok : okB (spc (c.map runW)) := okB_spc _ (fun w hw => by obtain ⟨r, _, rfl⟩ := List.mem_map.1 hw; exact okB_runW r)
  unfold parse0
  rw [ht, show (⟨#[32]⟩ : ByteArray) = ⟨#[(32 : UInt8)]⟩ from rfl, splitS_L, bytes_str hok]
  cases c with
  | nil => exact absurd rfl h0
  | cons r c =>
    have e : ((32 : UInt8).toNat : Int) = 32 := rfl
    rw [e, List.map_cons, split_spc _ _ (runW_free r) (fun t ht => by obtain ⟨r, _, rfl⟩ := List.mem_map.1 ht; exact runW_free r)]
    rw [← List.map_cons, List.map_map, List.map_map]
    conv => rhs; rw [← List.map_id (r :: c)]
    refine List.map_congr_left fun x hx => ?_
    obtain ⟨k, hk⟩ := List.getElem?_of_mem hx
    exact wordR_runW (right_runs h hk)
/-- What Parse answers. -/
def parsedOk (s : ByteArray) : Prop := s = ⟨#[45]⟩ ∨ (s ≠ ⟨#[]⟩ ∧ strOfNums (textL (parse0 s)) = s)
open Classical in
noncomputable def parsedB (s : ByteArray) : Bool := decide (parsedOk s)
open Classical in
noncomputable def parsedL (s : ByteArray) : List Run := if s = ⟨#[45]⟩ then [] else if parsedOk s then parse0 s else []
end Go.Proofs.YtoaaieiiamdopaaGreatDoor

set_option linter.unusedVariables false
set_option linter.unusedSimpArgs false
set_option maxRecDepth 100000
set_option maxHeartbeats 4000000
namespace Go.Proofs.YtoaaieiiamdopaaGreatDoor
open Go.Eng
theorem str_eq {a b : ByteArray} : a.toList = b.toList ↔ a = b := by
  simp only [ByteArray.toList_eq]
  exact ⟨fun h => ByteArray.ext (Array.toList_inj.1 h), fun h => by rw [h]⟩
open Classical in
theorem parsedB_true {s : ByteArray} (h : parsedOk s) : parsedB s = true := decide_eq_true h
open Classical in
theorem parsedB_false {s : ByteArray} (h : ¬ parsedOk s) : parsedB s = false := decide_eq_false h
theorem parsedL_no {s : ByteArray} (h : ¬ parsedOk s) : parsedL s = [] := by
  unfold parsedL
  by_cases e : s = ⟨#[45]⟩
  · rw [if_pos e]
  · rw [if_neg e, if_neg h]
theorem parsedL_yes {s : ByteArray} (h1 : ¬ s = ⟨#[45]⟩) (h : parsedOk s) : parsedL s = parse0 s := by
  unfold parsedL
  rw [if_neg h1, if_pos h]
theorem bz (l : List UInt8) : (⟨l.toArray⟩ : ByteArray).size = l.length := by show l.toArray.size = _; simp
theorem dz (s : ByteArray) : s.data.toList.length = s.size := by simp
theorem cut_le (s t : ByteArray) : (cutS s t).1.size ≤ s.size ∧ (cutS s t).2.1.size ≤ s.size := by
  unfold cutS
  dsimp only
  have hz := dz s
  have a1 := bz (Lib.cut s.data.toList t.data.toList).1
  have a2 := bz (Lib.cut s.data.toList t.data.toList).2.1
  rw [a1, a2]
  have h : (Lib.cut s.data.toList t.data.toList).1.length ≤ s.data.toList.length ∧ (Lib.cut s.data.toList t.data.toList).2.1.length ≤ s.data.toList.length := by
    unfold Lib.cut
    split
    · dsimp only
      rw [List.length_take, List.length_drop]; omega
    · dsimp only
      exact ⟨Nat.le_refl _, Nat.zero_le _⟩
  rw [hz] at h
  exact h
theorem word_le {s w : ByteArray} (h : w ∈ splitS s ⟨#[32]⟩) : w.size ≤ s.size := by
  rw [show (⟨#[32]⟩ : ByteArray) = ⟨#[(32 : UInt8)]⟩ from rfl, splitS_L] at h
  obtain ⟨l, hl, rfl⟩ := List.mem_map.1 h
  have := (splitL_mem _ _ _ hl).1
  rw [bytesL_length] at this
  rw [str_size]; exact this
theorem words_le (s : ByteArray) : (splitS s ⟨#[32]⟩).length ≤ s.size + 1 := by
  rw [show (⟨#[32]⟩ : ByteArray) = ⟨#[(32 : UInt8)]⟩ from rfl, splitS_L, List.length_map]
  have := splitL_le (((32 : UInt8).toNat : Nat) : Int) (bytesL s)
  rw [bytesL_length] at this; exact this
@[reducible] def dnumC : Ctr := {
  X := ByteArray
  Y := Unit
  args := fun s => [.v (.string s)]
  rw := fun _ => []
  side := fun s => s.size ≤ 281474976710656
  val := fun _ => ()
  ens := fun _ _ => True
  res := fun s _ => .v (.int .i64 (atoiN s))
  out := fun _ _ => [] }
theorem knownT4 : Known Tryz.prog (gOf [(79, atoiC)]) := known_cons ⟨atoi_ok, Tryz.call79⟩ (known_nil _)
theorem dnum_ok : dnumC.ok Tryz.prog 56 := by
  refine ok_of_vc (An := fun _ => anOf []) knownT4 mo Tryz.func56 (by kernel_rfl) (by kernel_rfl) (fun _ _ => trivial) (fun (s : ByteArray) hs => ?_)
  have hs : s.size ≤ 281474976710656 := hs
  ((repeat' ((conv => whnf) <;> first | exact True.intro | (guard_target =~ Fork _ _ _; first | refine F1 ?_ | refine F2 ?_ | refine F3 (fun h => ?_) fun h => ?_) | (guard_target =~ Ar _ _ _; first | refine A1 ?_ | refine A2 ?_ | refine A3 ?_) | (guard_target =~ AskL _ _; first | refine L1 ?_) | (guard_target =~ Go.Eng.Ask _ _; first | refine K1 ?_) | (guard_target =~ All' _ _; first | (refine Y2 fun y he he' hy => ?_; (try dsimp only at he he' hy)) | (refine Y1 fun y he hy => ?_; (try with_reducible conv at he => (rhs; whnf)); (try dsimp only at he hy)) | (refine All'.mk ?_; intro y hy)) | refine F4 (fun h => ?_) fun h => ?_ | refine R1 ?_ | refine Q1 ?_ | fail)); all_goals (conv => whnf))
  refine CallP.mk (C := atoiC) s ?_
  exact G1
noncomputable def dparseC : Ctr := {
  X := ByteArray
  Y := Unit
  args := fun s => [.v (.string s)]
  rw := fun _ => []
  side := fun s => s.size ≤ 100000
  val := fun _ => ()
  ens := fun _ _ => True
  res := fun s _ => .tuple [.sl 1000, .v (.bool (parsedB s))]
  out := fun s _ => [(1000, .row 57 runT (parsedL s))] }
attribute [reducible] dparseC
def wordsR (s : ByteArray) (i : Nat) : List Run := ((splitS s ⟨#[32]⟩).take i).map wordR
@[reducible] def dparseL (s : ByteArray) : LA := {
  X := Nat
  pre := fun i => i ≤ (splitS s ⟨#[32]⟩).length
  mu := fun i => (splitS s ⟨#[32]⟩).length - i
  T := fun i => [(0, .v (.string s)), (4, .sl 2), (20, .ro true .str (splitS s ⟨#[32]⟩)), (21, .v (.int .i64 (splitS s ⟨#[32]⟩).length)), (22, .v (.int .i64 (i : Nat)))]
  M := fun i => [(2, .row 57 runT (wordsR s i))] }
theorem knownT5 : Known Tryz.prog (gOf [(54, splitC), (55, cutC), (56, dnumC), (22, dtextC)]) :=
  known_cons ⟨split_ok, Tryz.call54⟩ (known_cons ⟨cut_ok, Tryz.call55⟩ (known_cons ⟨dnum_ok, Tryz.call56⟩ (known_cons ⟨dtext_ok, Tryz.call22⟩ (known_nil _))))
theorem dparse_ok : dparseC.ok Tryz.prog 16 := by
  refine ok_of_vc (An := fun s => anOf [(1, .loop (dparseL s))]) knownT5 mo Tryz.func16 (by kernel_rfl) (by kernel_rfl) (fun _ _ => trivial) (fun (s : ByteArray) hs => ?_)
  have hs : s.size ≤ 100000 := hs
  by_cases h1 : s = ⟨#[45]⟩
  · subst h1
    have k1 : parsedB ⟨#[45]⟩ = true := parsedB_true (.inl rfl)
    have k2 : parsedL ⟨#[45]⟩ = [] := if_pos rfl
    have lm := And.intro k1 k2
    exact G1
  · by_cases h2 : s = ⟨#[]⟩
    · subst h2
      have k0 : ¬ parsedOk ⟨#[]⟩ := fun h => h.elim (fun e => absurd e h1) (fun e => e.1 rfl)
      have k1 := parsedB_false k0
      have k2 := parsedL_no k0
      have g1 : ¬ (⟨#[]⟩ : ByteArray).toList = (⟨#[45]⟩ : ByteArray).toList := fun h => h1 (str_eq.1 h)
      have lm := And.intro k1 k2
      exact G1
    · have g1 : ¬ s.toList = (⟨#[45]⟩ : ByteArray).toList := fun h => h1 (str_eq.1 h)
      have g2 : ¬ s.toList = (⟨#[]⟩ : ByteArray).toList := fun h => h2 (str_eq.1 h)
      have hwl := words_le s
      ((repeat' ((conv => whnf) <;> first | exact True.intro | (guard_target =~ Fork _ _ _; first | refine F1 ?_ | refine F2 ?_ | refine F3 (fun h => ?_) fun h => ?_) | (guard_target =~ Ar _ _ _; first | refine A1 ?_ | refine A2 ?_ | refine A3 ?_) | (guard_target =~ AskL _ _; first | refine L1 ?_) | (guard_target =~ Go.Eng.Ask _ _; first | refine K1 ?_) | (guard_target =~ All' _ _; first | (refine Y2 fun y he he' hy => ?_; (try dsimp only at he he' hy)) | (refine Y1 fun y he hy => ?_; (try with_reducible conv at he => (rhs; whnf)); (try dsimp only at he hy)) | (refine All'.mk ?_; intro y hy)) | refine F4 (fun h => ?_) fun h => ?_ | refine R1 ?_ | refine Q1 ?_ | fail)); all_goals (conv => whnf))
      have hsp : s.size < 4294967281 ∧ 1 ≤ (⟨#[32]⟩ : ByteArray).size := ⟨by omega, by decide⟩
      have hw0 : wordsR s 0 = [] := rfl
      refine CallP.mk (C := splitC) ⟨s, ⟨#[32]⟩⟩ ?_
      ((repeat' ((conv => whnf) <;> first | exact True.intro | (guard_target =~ Fork _ _ _; first | refine F1 ?_ | refine F2 ?_ | refine F3 (fun h => ?_) fun h => ?_) | (guard_target =~ Ar _ _ _; first | refine A1 ?_ | refine A2 ?_ | refine A3 ?_) | (guard_target =~ AskL _ _; first | refine L1 ?_) | (guard_target =~ Go.Eng.Ask _ _; first | refine K1 ?_) | (guard_target =~ All' _ _; first | (refine Y2 fun y he he' hy => ?_; (try dsimp only at he he' hy)) | (refine Y1 fun y he hy => ?_; (try with_reducible conv at he => (rhs; whnf)); (try dsimp only at he hy)) | (refine All'.mk ?_; intro y hy)) | refine F4 (fun h => ?_) fun h => ?_ | refine R1 ?_ | refine Q1 ?_ | fail)); all_goals (conv => whnf))
      refine Some'.mk (0 : Nat) ?_
      have lm := hw0
      ((repeat' ((conv => whnf) <;> first | exact True.intro | (guard_target =~ Fork _ _ _; first | refine F1 ?_ | refine F2 ?_ | refine F3 (fun h => ?_) fun h => ?_) | (guard_target =~ Ar _ _ _; first | refine A1 ?_ | refine A2 ?_ | refine A3 ?_) | (guard_target =~ AskL _ _; first | refine L1 ?_) | (guard_target =~ Go.Eng.Ask _ _; first | refine K1 ?_) | (guard_target =~ All' _ _; first | (refine Y2 fun y he he' hy => ?_; (try dsimp only at he he' hy)) | (refine Y1 fun y he hy => ?_; (try with_reducible conv at he => (rhs; whnf)); (try dsimp only at he hy)) | (refine All'.mk ?_; intro y hy)) | refine F4 (fun h => ?_) fun h => ?_ | refine R1 ?_ | refine Q1 ?_ | fail)); all_goals (conv => whnf))
      refine AllI.mk ?_
      rintro (i : Nat) hi
      have hi : i ≤ (splitS s ⟨#[32]⟩).length := hi
      by_cases hie : i = (splitS s ⟨#[32]⟩).length
      · subst hie
        have hX : ((splitS s ⟨#[32]⟩).take (splitS s ⟨#[32]⟩).length).map wordR = parse0 s := by rw [List.take_length]; rfl
        have hXl : (((splitS s ⟨#[32]⟩).take (splitS s ⟨#[32]⟩).length).map wordR).length ≤ 1000000 := by rw [hX]; unfold parse0; rw [List.length_map]; omega
        by_cases h3 : strOfNums (textL (parse0 s)) = s
        · have k0 : parsedOk s := .inr ⟨h2, h3⟩
          have k1 := parsedB_true k0
          have k2 : parsedL s = wordsR s (splitS s ⟨#[32]⟩).length := (parsedL_yes h1 k0).trans hX.symm
          have g3 : (strOfNums (textL (((splitS s ⟨#[32]⟩).take (splitS s ⟨#[32]⟩).length).map wordR))).toList = s.toList := by rw [hX, h3]
          clear hX h3
          have lm := And.intro k1 k2
          ((repeat' ((conv => whnf) <;> first | exact True.intro | (guard_target =~ Fork _ _ _; first | refine F1 ?_ | refine F2 ?_ | refine F3 (fun h => ?_) fun h => ?_) | (guard_target =~ Ar _ _ _; first | refine A1 ?_ | refine A2 ?_ | refine A3 ?_) | (guard_target =~ AskL _ _; first | refine L1 ?_) | (guard_target =~ Go.Eng.Ask _ _; first | refine K1 ?_) | (guard_target =~ All' _ _; first | (refine Y2 fun y he he' hy => ?_; (try dsimp only at he he' hy)) | (refine Y1 fun y he hy => ?_; (try with_reducible conv at he => (rhs; whnf)); (try dsimp only at he hy)) | (refine All'.mk ?_; intro y hy)) | refine F4 (fun h => ?_) fun h => ?_ | refine R1 ?_ | refine Q1 ?_ | fail)); all_goals (conv => whnf))
          refine CallP.mk (C := dtextC) (((splitS s ⟨#[32]⟩).take (splitS s ⟨#[32]⟩).length).map wordR) ?_
          exact G1
        · have k0 : ¬ parsedOk s := fun h => h.elim h1 (fun e => h3 e.2)
          have k1 := parsedB_false k0
          have k2 := parsedL_no k0
          have g3 : ¬ (strOfNums (textL (((splitS s ⟨#[32]⟩).take (splitS s ⟨#[32]⟩).length).map wordR))).toList = s.toList := by rw [hX]; exact fun h => h3 (str_eq.1 h)
          clear hX
          have lm := And.intro k1 k2
          ((repeat' ((conv => whnf) <;> first | exact True.intro | (guard_target =~ Fork _ _ _; first | refine F1 ?_ | refine F2 ?_ | refine F3 (fun h => ?_) fun h => ?_) | (guard_target =~ Ar _ _ _; first | refine A1 ?_ | refine A2 ?_ | refine A3 ?_) | (guard_target =~ AskL _ _; first | refine L1 ?_) | (guard_target =~ Go.Eng.Ask _ _; first | refine K1 ?_) | (guard_target =~ All' _ _; first | (refine Y2 fun y he he' hy => ?_; (try dsimp only at he he' hy)) | (refine Y1 fun y he hy => ?_; (try with_reducible conv at he => (rhs; whnf)); (try dsimp only at he hy)) | (refine All'.mk ?_; intro y hy)) | refine F4 (fun h => ?_) fun h => ?_ | refine R1 ?_ | refine Q1 ?_ | fail)); all_goals (conv => whnf))
          refine CallP.mk (C := dtextC) (((splitS s ⟨#[32]⟩).take (splitS s ⟨#[32]⟩).length).map wordR) ?_
          exact G1
      · obtain ⟨w, hce⟩ : ∃ e, (splitS s ⟨#[32]⟩)[i]? = some e := ⟨_, List.getElem?_eq_getElem (by omega)⟩
        have hwz := word_le (List.mem_of_getElem? hce)
        have hstep : wordsR s (i + 1) = wordsR s i ++ [wordR w] := by unfold wordsR; rw [take_get hce, List.map_append]; rfl
        have hpr : (dparseL s).pre (i + 1) := by show i + 1 ≤ (splitS s ⟨#[32]⟩).length; omega
        have hmu : (dparseL s).mu (i + 1) < (dparseL s).mu i := by show (splitS s ⟨#[32]⟩).length - (i + 1) < (splitS s ⟨#[32]⟩).length - i; omega
        obtain ⟨hc1, hc2⟩ := cut_le w ⟨#[58]⟩
        obtain ⟨hc3, hc4⟩ := cut_le (cutS w ⟨#[58]⟩).2.1 ⟨#[45]⟩
        have hap : ∀ x : Run, (wordsR s i).length + [x].length ≤ 274877906944 := fun x => by unfold wordsR; rw [List.length_map, List.length_take, List.length_singleton]; omega
        have hapl : (((splitS s ⟨#[32]⟩).take i).map wordR).length ≤ 100001 := by rw [List.length_map, List.length_take]; omega
        cases hm : (cutS (cutS w ⟨#[58]⟩).2.1 ⟨#[45]⟩).2.2 with
        | true =>
          have hw : wordR w = (atoiN (cutS w ⟨#[58]⟩).1, atoiN (cutS (cutS w ⟨#[58]⟩).2.1 ⟨#[45]⟩).1, atoiN (cutS (cutS w ⟨#[58]⟩).2.1 ⟨#[45]⟩).2.1) := by
            show (_, _, if (cutS (cutS w ⟨#[58]⟩).2.1 ⟨#[45]⟩).2.2 then atoiN (cutS (cutS w ⟨#[58]⟩).2.1 ⟨#[45]⟩).2.1 else atoiN (cutS (cutS w ⟨#[58]⟩).2.1 ⟨#[45]⟩).1) = _
            rw [hm]; rfl
          rw [hw] at hstep
          clear hw
          have lm := hm
          ((repeat' ((conv => whnf) <;> first | exact True.intro | (guard_target =~ Fork _ _ _; first | refine F1 ?_ | refine F2 ?_ | refine F3 (fun h => ?_) fun h => ?_) | (guard_target =~ Ar _ _ _; first | refine A1 ?_ | refine A2 ?_ | refine A3 ?_) | (guard_target =~ AskL _ _; first | refine L1 ?_) | (guard_target =~ Go.Eng.Ask _ _; first | refine K1 ?_) | (guard_target =~ All' _ _; first | (refine Y2 fun y he he' hy => ?_; (try dsimp only at he he' hy)) | (refine Y1 fun y he hy => ?_; (try with_reducible conv at he => (rhs; whnf)); (try dsimp only at he hy))) | refine F4 (fun h => ?_) fun h => ?_ | refine R1 ?_ | refine Q1 ?_ | fail)); all_goals (conv => whnf))
          refine All'.mk ?_; rintro (e' : ByteArray) he'
          obtain rfl : w = e' := Option.some.inj (hce.symm.trans he')
          clear he'
          ((repeat' ((conv => whnf) <;> first | exact True.intro | (guard_target =~ Fork _ _ _; first | refine F1 ?_ | refine F2 ?_ | refine F3 (fun h => ?_) fun h => ?_) | (guard_target =~ Ar _ _ _; first | refine A1 ?_ | refine A2 ?_ | refine A3 ?_) | (guard_target =~ AskL _ _; first | refine L1 ?_) | (guard_target =~ Go.Eng.Ask _ _; first | refine K1 ?_) | (guard_target =~ All' _ _; first | (refine Y2 fun y he he' hy => ?_; (try dsimp only at he he' hy)) | (refine Y1 fun y he hy => ?_; (try with_reducible conv at he => (rhs; whnf)); (try dsimp only at he hy)) | (refine All'.mk ?_; intro y hy)) | refine F4 (fun h => ?_) fun h => ?_ | refine R1 ?_ | refine Q1 ?_ | fail)); all_goals (conv => whnf))
          refine CallP.mk (C := cutC) (w, ⟨#[58]⟩) ?_
          ((repeat' ((conv => whnf) <;> first | exact True.intro | (guard_target =~ Fork _ _ _; first | refine F1 ?_ | refine F2 ?_ | refine F3 (fun h => ?_) fun h => ?_) | (guard_target =~ Ar _ _ _; first | refine A1 ?_ | refine A2 ?_ | refine A3 ?_) | (guard_target =~ AskL _ _; first | refine L1 ?_) | (guard_target =~ Go.Eng.Ask _ _; first | refine K1 ?_) | (guard_target =~ All' _ _; first | (refine Y2 fun y he he' hy => ?_; (try dsimp only at he he' hy)) | (refine Y1 fun y he hy => ?_; (try with_reducible conv at he => (rhs; whnf)); (try dsimp only at he hy)) | (refine All'.mk ?_; intro y hy)) | refine F4 (fun h => ?_) fun h => ?_ | refine R1 ?_ | refine Q1 ?_ | fail)); all_goals (conv => whnf))
          refine CallP.mk (C := cutC) ((cutS w ⟨#[58]⟩).2.1, ⟨#[45]⟩) ?_
          ((repeat' ((conv => whnf) <;> first | exact True.intro | (guard_target =~ Fork _ _ _; first | refine F1 ?_ | refine F2 ?_ | refine F3 (fun h => ?_) fun h => ?_) | (guard_target =~ Ar _ _ _; first | refine A1 ?_ | refine A2 ?_ | refine A3 ?_) | (guard_target =~ AskL _ _; first | refine L1 ?_) | (guard_target =~ Go.Eng.Ask _ _; first | refine K1 ?_) | (guard_target =~ All' _ _; first | (refine Y2 fun y he he' hy => ?_; (try dsimp only at he he' hy)) | (refine Y1 fun y he hy => ?_; (try with_reducible conv at he => (rhs; whnf)); (try dsimp only at he hy)) | (refine All'.mk ?_; intro y hy)) | refine F4 (fun h => ?_) fun h => ?_ | refine R1 ?_ | refine Q1 ?_ | fail)); all_goals (conv => whnf))
          refine CallP.mk (C := dnumC) (cutS w ⟨#[58]⟩).1 ?_
          ((repeat' ((conv => whnf) <;> first | exact True.intro | (guard_target =~ Fork _ _ _; first | refine F1 ?_ | refine F2 ?_ | refine F3 (fun h => ?_) fun h => ?_) | (guard_target =~ Ar _ _ _; first | refine A1 ?_ | refine A2 ?_ | refine A3 ?_) | (guard_target =~ AskL _ _; first | refine L1 ?_) | (guard_target =~ Go.Eng.Ask _ _; first | refine K1 ?_) | (guard_target =~ All' _ _; first | (refine Y2 fun y he he' hy => ?_; (try dsimp only at he he' hy)) | (refine Y1 fun y he hy => ?_; (try with_reducible conv at he => (rhs; whnf)); (try dsimp only at he hy)) | (refine All'.mk ?_; intro y hy)) | refine F4 (fun h => ?_) fun h => ?_ | refine R1 ?_ | refine Q1 ?_ | fail)); all_goals (conv => whnf))
          refine CallP.mk (C := dnumC) (cutS (cutS w ⟨#[58]⟩).2.1 ⟨#[45]⟩).1 ?_
          ((repeat' ((conv => whnf) <;> first | exact True.intro | (guard_target =~ Fork _ _ _; first | refine F1 ?_ | refine F2 ?_ | refine F3 (fun h => ?_) fun h => ?_) | (guard_target =~ Ar _ _ _; first | refine A1 ?_ | refine A2 ?_ | refine A3 ?_) | (guard_target =~ AskL _ _; first | refine L1 ?_) | (guard_target =~ Go.Eng.Ask _ _; first | refine K1 ?_) | (guard_target =~ All' _ _; first | (refine Y2 fun y he he' hy => ?_; (try dsimp only at he he' hy)) | (refine Y1 fun y he hy => ?_; (try with_reducible conv at he => (rhs; whnf)); (try dsimp only at he hy)) | (refine All'.mk ?_; intro y hy)) | refine F4 (fun h => ?_) fun h => ?_ | refine R1 ?_ | refine Q1 ?_ | fail)); all_goals (conv => whnf))
          refine CallP.mk (C := dnumC) (cutS (cutS w ⟨#[58]⟩).2.1 ⟨#[45]⟩).1 ?_
          ((repeat' ((conv => whnf) <;> first | exact True.intro | (guard_target =~ Fork _ _ _; first | refine F1 ?_ | refine F2 ?_ | refine F3 (fun h => ?_) fun h => ?_) | (guard_target =~ Ar _ _ _; first | refine A1 ?_ | refine A2 ?_ | refine A3 ?_) | (guard_target =~ AskL _ _; first | refine L1 ?_) | (guard_target =~ Go.Eng.Ask _ _; first | refine K1 ?_) | (guard_target =~ All' _ _; first | (refine Y2 fun y he he' hy => ?_; (try dsimp only at he he' hy)) | (refine Y1 fun y he hy => ?_; (try with_reducible conv at he => (rhs; whnf)); (try dsimp only at he hy)) | (refine All'.mk ?_; intro y hy)) | refine F4 (fun h => ?_) fun h => ?_ | refine R1 ?_ | refine Q1 ?_ | fail)); all_goals (conv => whnf))
          refine CallP.mk (C := dnumC) (cutS (cutS w ⟨#[58]⟩).2.1 ⟨#[45]⟩).2.1 ?_
          ((repeat' ((conv => whnf) <;> first | exact True.intro | (guard_target =~ Fork _ _ _; first | refine F1 ?_ | refine F2 ?_ | refine F3 (fun h => ?_) fun h => ?_) | (guard_target =~ Ar _ _ _; first | refine A1 ?_ | refine A2 ?_ | refine A3 ?_) | (guard_target =~ AskL _ _; first | refine L1 ?_) | (guard_target =~ Go.Eng.Ask _ _; first | refine K1 ?_) | (guard_target =~ All' _ _; first | (refine Y2 fun y he he' hy => ?_; (try dsimp only at he he' hy)) | (refine Y1 fun y he hy => ?_; (try with_reducible conv at he => (rhs; whnf)); (try dsimp only at he hy)) | (refine All'.mk ?_; intro y hy)) | refine F4 (fun h => ?_) fun h => ?_ | refine R1 ?_ | refine Q1 ?_ | fail)); all_goals (conv => whnf))
          refine Ask.mk (hap _) ?_
          ((repeat' ((conv => whnf) <;> first | exact True.intro | (guard_target =~ Fork _ _ _; first | refine F1 ?_ | refine F2 ?_ | refine F3 (fun h => ?_) fun h => ?_) | (guard_target =~ Ar _ _ _; first | refine A1 ?_ | refine A2 ?_ | refine A3 ?_) | (guard_target =~ AskL _ _; first | refine L1 ?_) | (guard_target =~ Go.Eng.Ask _ _; first | refine K1 ?_) | (guard_target =~ All' _ _; first | (refine Y2 fun y he he' hy => ?_; (try dsimp only at he he' hy)) | (refine Y1 fun y he hy => ?_; (try with_reducible conv at he => (rhs; whnf)); (try dsimp only at he hy))) | refine F4 (fun h => ?_) fun h => ?_ | refine R1 ?_ | refine Q1 ?_ | fail)); all_goals (conv => whnf))
          refine Some'.mk (i + 1 : Nat) ?_
          ((repeat' ((conv => whnf) <;> first | exact True.intro | (guard_target =~ Fork _ _ _; first | refine F1 ?_ | refine F2 ?_ | refine F3 (fun h => ?_) fun h => ?_) | (guard_target =~ Ar _ _ _; first | refine A1 ?_ | refine A2 ?_ | refine A3 ?_) | (guard_target =~ Go.Eng.Ask _ _; first | refine K1 ?_) | (guard_target =~ All' _ _; first | (refine Y2 fun y he he' hy => ?_; (try dsimp only at he he' hy)) | (refine Y1 fun y he hy => ?_; (try with_reducible conv at he => (rhs; whnf)); (try dsimp only at he hy)) | (refine All'.mk ?_; intro y hy)) | refine F4 (fun h => ?_) fun h => ?_ | refine R1 ?_ | refine Q1 ?_ | fail)); all_goals (conv => whnf))
          refine AskL.mk ?_ (Ask.mk hpr (Ask.mk hmu trivial))
          (dsimp only [conj]; repeat' apply And.intro) <;> first | rfl | exact congrArg (SV.ro true runT) hstep.symm
        | false =>
          have hw : wordR w = (atoiN (cutS w ⟨#[58]⟩).1, atoiN (cutS (cutS w ⟨#[58]⟩).2.1 ⟨#[45]⟩).1, atoiN (cutS (cutS w ⟨#[58]⟩).2.1 ⟨#[45]⟩).1) := by
            show (_, _, if (cutS (cutS w ⟨#[58]⟩).2.1 ⟨#[45]⟩).2.2 then atoiN (cutS (cutS w ⟨#[58]⟩).2.1 ⟨#[45]⟩).2.1 else atoiN (cutS (cutS w ⟨#[58]⟩).2.1 ⟨#[45]⟩).1) = _
            rw [hm]; rfl
          rw [hw] at hstep
          clear hw
          have lm := hm
          ((repeat' ((conv => whnf) <;> first | exact True.intro | (guard_target =~ Fork _ _ _; first | refine F1 ?_ | refine F2 ?_ | refine F3 (fun h => ?_) fun h => ?_) | (guard_target =~ Ar _ _ _; first | refine A1 ?_ | refine A2 ?_ | refine A3 ?_) | (guard_target =~ AskL _ _; first | refine L1 ?_) | (guard_target =~ Go.Eng.Ask _ _; first | refine K1 ?_) | (guard_target =~ All' _ _; first | (refine Y2 fun y he he' hy => ?_; (try dsimp only at he he' hy)) | (refine Y1 fun y he hy => ?_; (try with_reducible conv at he => (rhs; whnf)); (try dsimp only at he hy))) | refine F4 (fun h => ?_) fun h => ?_ | refine R1 ?_ | refine Q1 ?_ | fail)); all_goals (conv => whnf))
          refine All'.mk ?_; rintro (e' : ByteArray) he'
          obtain rfl : w = e' := Option.some.inj (hce.symm.trans he')
          clear he'
          ((repeat' ((conv => whnf) <;> first | exact True.intro | (guard_target =~ Fork _ _ _; first | refine F1 ?_ | refine F2 ?_ | refine F3 (fun h => ?_) fun h => ?_) | (guard_target =~ Ar _ _ _; first | refine A1 ?_ | refine A2 ?_ | refine A3 ?_) | (guard_target =~ AskL _ _; first | refine L1 ?_) | (guard_target =~ Go.Eng.Ask _ _; first | refine K1 ?_) | (guard_target =~ All' _ _; first | (refine Y2 fun y he he' hy => ?_; (try dsimp only at he he' hy)) | (refine Y1 fun y he hy => ?_; (try with_reducible conv at he => (rhs; whnf)); (try dsimp only at he hy)) | (refine All'.mk ?_; intro y hy)) | refine F4 (fun h => ?_) fun h => ?_ | refine R1 ?_ | refine Q1 ?_ | fail)); all_goals (conv => whnf))
          refine CallP.mk (C := cutC) (w, ⟨#[58]⟩) ?_
          ((repeat' ((conv => whnf) <;> first | exact True.intro | (guard_target =~ Fork _ _ _; first | refine F1 ?_ | refine F2 ?_ | refine F3 (fun h => ?_) fun h => ?_) | (guard_target =~ Ar _ _ _; first | refine A1 ?_ | refine A2 ?_ | refine A3 ?_) | (guard_target =~ AskL _ _; first | refine L1 ?_) | (guard_target =~ Go.Eng.Ask _ _; first | refine K1 ?_) | (guard_target =~ All' _ _; first | (refine Y2 fun y he he' hy => ?_; (try dsimp only at he he' hy)) | (refine Y1 fun y he hy => ?_; (try with_reducible conv at he => (rhs; whnf)); (try dsimp only at he hy)) | (refine All'.mk ?_; intro y hy)) | refine F4 (fun h => ?_) fun h => ?_ | refine R1 ?_ | refine Q1 ?_ | fail)); all_goals (conv => whnf))
          refine CallP.mk (C := cutC) ((cutS w ⟨#[58]⟩).2.1, ⟨#[45]⟩) ?_
          ((repeat' ((conv => whnf) <;> first | exact True.intro | (guard_target =~ Fork _ _ _; first | refine F1 ?_ | refine F2 ?_ | refine F3 (fun h => ?_) fun h => ?_) | (guard_target =~ Ar _ _ _; first | refine A1 ?_ | refine A2 ?_ | refine A3 ?_) | (guard_target =~ AskL _ _; first | refine L1 ?_) | (guard_target =~ Go.Eng.Ask _ _; first | refine K1 ?_) | (guard_target =~ All' _ _; first | (refine Y2 fun y he he' hy => ?_; (try dsimp only at he he' hy)) | (refine Y1 fun y he hy => ?_; (try with_reducible conv at he => (rhs; whnf)); (try dsimp only at he hy)) | (refine All'.mk ?_; intro y hy)) | refine F4 (fun h => ?_) fun h => ?_ | refine R1 ?_ | refine Q1 ?_ | fail)); all_goals (conv => whnf))
          refine CallP.mk (C := dnumC) (cutS w ⟨#[58]⟩).1 ?_
          ((repeat' ((conv => whnf) <;> first | exact True.intro | (guard_target =~ Fork _ _ _; first | refine F1 ?_ | refine F2 ?_ | refine F3 (fun h => ?_) fun h => ?_) | (guard_target =~ Ar _ _ _; first | refine A1 ?_ | refine A2 ?_ | refine A3 ?_) | (guard_target =~ AskL _ _; first | refine L1 ?_) | (guard_target =~ Go.Eng.Ask _ _; first | refine K1 ?_) | (guard_target =~ All' _ _; first | (refine Y2 fun y he he' hy => ?_; (try dsimp only at he he' hy)) | (refine Y1 fun y he hy => ?_; (try with_reducible conv at he => (rhs; whnf)); (try dsimp only at he hy)) | (refine All'.mk ?_; intro y hy)) | refine F4 (fun h => ?_) fun h => ?_ | refine R1 ?_ | refine Q1 ?_ | fail)); all_goals (conv => whnf))
          refine CallP.mk (C := dnumC) (cutS (cutS w ⟨#[58]⟩).2.1 ⟨#[45]⟩).1 ?_
          ((repeat' ((conv => whnf) <;> first | exact True.intro | (guard_target =~ Fork _ _ _; first | refine F1 ?_ | refine F2 ?_ | refine F3 (fun h => ?_) fun h => ?_) | (guard_target =~ Ar _ _ _; first | refine A1 ?_ | refine A2 ?_ | refine A3 ?_) | (guard_target =~ AskL _ _; first | refine L1 ?_) | (guard_target =~ Go.Eng.Ask _ _; first | refine K1 ?_) | (guard_target =~ All' _ _; first | (refine Y2 fun y he he' hy => ?_; (try dsimp only at he he' hy)) | (refine Y1 fun y he hy => ?_; (try with_reducible conv at he => (rhs; whnf)); (try dsimp only at he hy)) | (refine All'.mk ?_; intro y hy)) | refine F4 (fun h => ?_) fun h => ?_ | refine R1 ?_ | refine Q1 ?_ | fail)); all_goals (conv => whnf))
          refine CallP.mk (C := dnumC) (cutS (cutS w ⟨#[58]⟩).2.1 ⟨#[45]⟩).1 ?_
          ((repeat' ((conv => whnf) <;> first | exact True.intro | (guard_target =~ Fork _ _ _; first | refine F1 ?_ | refine F2 ?_ | refine F3 (fun h => ?_) fun h => ?_) | (guard_target =~ Ar _ _ _; first | refine A1 ?_ | refine A2 ?_ | refine A3 ?_) | (guard_target =~ AskL _ _; first | refine L1 ?_) | (guard_target =~ Go.Eng.Ask _ _; first | refine K1 ?_) | (guard_target =~ All' _ _; first | (refine Y2 fun y he he' hy => ?_; (try dsimp only at he he' hy)) | (refine Y1 fun y he hy => ?_; (try with_reducible conv at he => (rhs; whnf)); (try dsimp only at he hy)) | (refine All'.mk ?_; intro y hy)) | refine F4 (fun h => ?_) fun h => ?_ | refine R1 ?_ | refine Q1 ?_ | fail)); all_goals (conv => whnf))
          refine Ask.mk (hap _) ?_
          ((repeat' ((conv => whnf) <;> first | exact True.intro | (guard_target =~ Fork _ _ _; first | refine F1 ?_ | refine F2 ?_ | refine F3 (fun h => ?_) fun h => ?_) | (guard_target =~ Ar _ _ _; first | refine A1 ?_ | refine A2 ?_ | refine A3 ?_) | (guard_target =~ AskL _ _; first | refine L1 ?_) | (guard_target =~ Go.Eng.Ask _ _; first | refine K1 ?_) | (guard_target =~ All' _ _; first | (refine Y2 fun y he he' hy => ?_; (try dsimp only at he he' hy)) | (refine Y1 fun y he hy => ?_; (try with_reducible conv at he => (rhs; whnf)); (try dsimp only at he hy))) | refine F4 (fun h => ?_) fun h => ?_ | refine R1 ?_ | refine Q1 ?_ | fail)); all_goals (conv => whnf))
          refine Some'.mk (i + 1 : Nat) ?_
          ((repeat' ((conv => whnf) <;> first | exact True.intro | (guard_target =~ Fork _ _ _; first | refine F1 ?_ | refine F2 ?_ | refine F3 (fun h => ?_) fun h => ?_) | (guard_target =~ Ar _ _ _; first | refine A1 ?_ | refine A2 ?_ | refine A3 ?_) | (guard_target =~ Go.Eng.Ask _ _; first | refine K1 ?_) | (guard_target =~ All' _ _; first | (refine Y2 fun y he he' hy => ?_; (try dsimp only at he he' hy)) | (refine Y1 fun y he hy => ?_; (try with_reducible conv at he => (rhs; whnf)); (try dsimp only at he hy)) | (refine All'.mk ?_; intro y hy)) | refine F4 (fun h => ?_) fun h => ?_ | refine R1 ?_ | refine Q1 ?_ | fail)); all_goals (conv => whnf))
          refine AskL.mk ?_ (Ask.mk hpr (Ask.mk hmu trivial))
          (dsimp only [conj]; repeat' apply And.intro) <;> first | rfl | exact congrArg (SV.ro true runT) hstep.symm
end Go.Proofs.YtoaaieiiamdopaaGreatDoor

set_option linter.unusedVariables false
set_option linter.unusedSimpArgs false
set_option maxRecDepth 100000
namespace Go.Proofs.YtoaaieiiamdopaaGreatDoor
open Go.Eng
end Go.Proofs.YtoaaieiiamdopaaGreatDoor

set_option linter.unusedVariables false
set_option linter.unusedSimpArgs false
set_option maxRecDepth 100000
set_option maxHeartbeats 4000000
namespace Go.Proofs.YtoaaieiiamdopaaGreatDoor
open Go.Eng
end Go.Proofs.YtoaaieiiamdopaaGreatDoor

set_option linter.unusedVariables false
set_option linter.unusedSimpArgs false
set_option maxRecDepth 100000
set_option maxHeartbeats 4000000
namespace Go.Proofs.YtoaaieiiamdopaaGreatDoor
open Go.Eng
variable [DM]
set_option linter.unusedSectionVars false
def okY (l : List Int) : Prop := ∀ c, c ∈ l → 0 ≤ c ∧ c < 256
/-- The value of bytes, the greatest ahead. -/
def beV (l : List Int) : Nat := l.foldl (fun u c => u * 256 + c.toNat) 0
theorem beV_snoc (l : List Int) (c : Int) : beV (l ++ [c]) = beV l * 256 + c.toNat := by unfold beV; rw [List.foldl_append]; rfl
theorem okY_take {l : List Int} (h : okY l) (i : Nat) : okY (l.take i) := fun c hc => h c (List.mem_of_mem_take hc)
theorem okY_drop {l : List Int} (h : okY l) (i : Nat) : okY (l.drop i) := fun c hc => h c (List.mem_of_mem_drop hc)
theorem beV_lt : ∀ (n : Nat) (l : List Int), l.length ≤ n → okY l → beV l < 256 ^ n
  | n, l, h, hl => by
    rcases List.eq_nil_or_concat l with rfl | ⟨m, c, rfl⟩
    · exact Nat.pow_pos (by omega)
    · rw [List.concat_eq_append] at *
      cases n with
      | zero => simp at h
      | succ n =>
        have := beV_lt n m (by simp at h; omega) (fun c hc => hl c (List.mem_append_left _ hc))
        have hc := hl c (by simp)
        rw [beV_snoc, Nat.pow_succ]; omega
termination_by n => n
theorem beL_beV : ∀ (n : Nat) (l : List Int), l.length = n → okY l → (beL (beV l)).length = l.length → beL (beV l) = l
  | 0, l, h, _, _ => by rw [List.length_eq_zero_iff.1 h]; exact beL_zero
  | n + 1, l, h, hl, he => by
    rcases List.eq_nil_or_concat l with rfl | ⟨m, c, rfl⟩
    · simp at h
    · rw [List.concat_eq_append] at *
      have hc := hl c (by simp)
      rcases Nat.eq_zero_or_pos (beV (m ++ [c])) with h0 | hp
      · rw [h0, beL_zero] at he; simp at he
      · rw [beL_pos hp]
        rw [beL_pos hp] at he
        rw [beV_snoc] at *
        have e1 : (beV m * 256 + c.toNat) / 256 = beV m := by omega
        have e2 : (beV m * 256 + c.toNat) % 256 = c.toNat := by omega
        rw [e1] at he
        rw [e1, e2, beL_beV n m (by simpa using h) (fun c hc => hl c (List.mem_append_left _ hc)) (by simpa using he)]
        congr 2; omega
def sizeV (u : Nat) : Int := if u ≤ 247 then 1 else 1 + ((beL u).length : Nat)
/-- A number's bytes, by their length. -/
theorem num_back {l : List Int} {c : Int} (hl : okY l) (hc : 248 ≤ c) (hk : (l.length : Int) = c - 247) : sizeV (beV l) = (l.length : Int) + 1 ↔ numL (beV l) = c :: l := by
  unfold sizeV numL
  by_cases h : beV l ≤ 247
  · rw [if_pos h, if_pos h]
    constructor
    · intro h2; omega
    · intro h2
      have := congrArg List.length h2
      simp only [List.length_cons, List.length_nil] at this; omega
  · rw [if_neg h, if_neg h]
    constructor
    · intro h2
      have h3 : (beL (beV l)).length = l.length := by omega
      rw [beL_beV _ l rfl hl h3]
      congr 1; omega
    · intro h2
      have := congrArg List.length h2
      simp only [List.length_cons] at this
      omega
/-- The number at the beginning, how many bytes it takes, the error. -/
def numS : List Int → Int × Int × Int
  | [] => (0, 0, 10)
  | c :: l => if c ≤ 247 then (c, 1, 0) else if (l.length : Int) < c - 247 then (0, 0, 10) else
    if numL (beV (l.take (c - 247).toNat)) = c :: l.take (c - 247).toNat then (((beV (l.take (c - 247).toNat) : Nat) : Int), c - 246, 0) else (0, 0, 11)
theorem numS_cons (c : Int) (l : List Int) : numS (c :: l) = if c ≤ 247 then (c, 1, 0) else if (l.length : Int) < c - 247 then (0, 0, 10) else
    if numL (beV (l.take (c - 247).toNat)) = c :: l.take (c - 247).toNat then (((beV (l.take (c - 247).toNat) : Nat) : Int), c - 246, 0) else (0, 0, 11) := rfl
theorem numS_rng {l : List Int} (hl : okY l) (h0 : (numS l).2.2 = 0) : 1 ≤ (numS l).2.1 ∧ (numS l).2.1 ≤ l.length ∧ 0 ≤ (numS l).1 ∧ (numS l).1 < 18446744073709551616 := by
  cases l with
  | nil => simp [numS] at h0
  | cons c l =>
    have hc := hl c (List.mem_cons_self ..)
    rw [numS_cons] at h0 ⊢
    simp only [List.length_cons]
    by_cases h1 : c ≤ 247
    · rw [if_pos h1]; dsimp only; omega
    · rw [if_neg h1] at h0 ⊢
      by_cases h2 : (l.length : Int) < c - 247
      · rw [if_pos h2] at h0; simp at h0
      · rw [if_neg h2] at h0 ⊢
        by_cases h3 : numL (beV (l.take (c - 247).toNat)) = c :: l.take (c - 247).toNat
        · rw [if_pos h3]
          have := beV_lt 8 (l.take (c - 247).toNat) (by rw [List.length_take]; omega) (okY_take (fun x hx => hl x (List.mem_cons_of_mem _ hx)) _)
          dsimp only; omega
        · rw [if_neg h3] at h0; simp at h0
theorem or_byte (u c : Nat) (hu : u < 72057594037927936) (hc : c < 256) : IntKind.u64.wrap (((BitVec.ofInt IntKind.u64.bits ((u : Int) * 256)) ||| (BitVec.ofInt IntKind.u64.bits (c : Int))).toNat : Nat) = ((u * 256 + c : Nat) : Int) := by
  have e0 : IntKind.u64.bits = 64 := rfl
  have e1 : BitVec.ofInt IntKind.u64.bits ((u : Int) * 256) = BitVec.ofNat 64 (u * 256) := by
    rw [show ((u : Int) * 256) = ((u * 256 : Nat) : Int) by push_cast; rfl]; rfl
  have e2 : BitVec.ofInt IntKind.u64.bits (c : Int) = BitVec.ofNat 64 c := rfl
  rw [e1, e2]
  have e3 : ((BitVec.ofNat 64 (u * 256)) ||| (BitVec.ofNat 64 c)).toNat = u * 256 + c := by
    rw [BitVec.toNat_or, BitVec.toNat_ofNat, BitVec.toNat_ofNat, Nat.mod_eq_of_lt (by omega), Nat.mod_eq_of_lt (by omega)]
    have := Nat.shiftLeft_add_eq_or_of_lt (a := u) (i := 8) (b := c) (by omega)
    rw [Nat.shiftLeft_eq] at this
    exact this.symm
  show IntKind.u64.wrap ((((BitVec.ofNat 64 (u * 256)) ||| (BitVec.ofNat 64 c)).toNat : Nat) : Int) = _
  rw [e3]
  exact wrap_u64 (by omega) (by omega)
@[reducible] def numberC : Ctr := {
  X := List Int
  Y := Unit
  args := fun l => [.ro true (.int .u8) l]
  rw := fun _ => []
  side := fun l => okY l ∧ l.length ≤ 9223372036854775807
  val := fun _ => ()
  ens := fun _ _ => True
  res := fun l _ => .tuple [.v (.int .u64 (numS l).1), .v (.int .i64 (numS l).2.1), .v (.int .i64 (numS l).2.2)]
  out := fun _ _ => [] }
def tlY (l : List Int) : List Int := l.tail.take (l.headD 0 - 247).toNat
@[reducible] def numberL (l : List Int) : LA := {
  X := Nat
  pre := fun i => i ≤ (tlY l).length
  mu := fun i => (tlY l).length - i
  T := fun i => [(5, .v (.int .i64 (l.headD 0 - 246))), (6, .v (.int .u64 (beV ((tlY l).take i) : Nat))), (34, .ro true (.int .u8) (tlY l)), (35, .v (.int .i64 (tlY l).length)), (36, .v (.int .i64 (i : Nat)))]
  M := fun _ => [] }
theorem knownY0 : Known Tryz.prog (gOf [(74, sizeC)]) := known_cons ⟨size_ok, Tryz.call74⟩ (known_nil _)
theorem number_ok : numberC.ok Tryz.prog 75 := by
  refine ok_of_vc (An := fun (l : List Int) => anOf [(1, .loop (numberL l))]) knownY0 mo Tryz.func75 (by kernel_rfl) (by kernel_rfl) (fun _ _ => trivial) (fun (l : List Int) hs => ?_)
  obtain ⟨hl, hlen⟩ := hs
  have hl : okY l := hl
  have hlen : l.length ≤ 9223372036854775807 := hlen
  cases l with
  | nil =>
    have hn : numS [] = (0, 0, 10) := rfl
    have hnl : ([] : List Int).length = 0 := rfl
    exact G1
  | cons c l =>
    have hc := hl c (List.mem_cons_self ..)
    have hnl : (c :: l).length = l.length + 1 := rfl
    have hw1 : IntKind.u64.wrap c = c := wrap_u64 (by omega) (by omega)
    have hw2 : IntKind.i64.wrap c = c := wrap_i64 (by omega) (by omega)
    have lm := And.intro hw1 hw2
    by_cases h1 : c ≤ 247
    · have hn : numS (c :: l) = (c, 1, 0) := if_pos h1
      ((repeat' ((conv => whnf) <;> first | exact True.intro | (guard_target =~ Fork _ _ _; first | refine F1 ?_ | refine F2 ?_ | refine F3 (fun h => ?_) fun h => ?_) | (guard_target =~ Ar _ _ _; first | refine A1 ?_ | refine A2 ?_ | refine A3 ?_) | (guard_target =~ AskL _ _; first | refine L1 ?_) | (guard_target =~ Go.Eng.Ask _ _; first | refine K1 ?_) | (guard_target =~ All' _ _; first | (refine Y2 fun y he he' hy => ?_; (try dsimp only at he he' hy)) | (refine Y1 fun y he hy => ?_; (try with_reducible conv at he => (rhs; whnf)); (try dsimp only at he hy))) | refine F4 (fun h => ?_) fun h => ?_ | refine R1 ?_ | refine Q1 ?_ | fail)); all_goals (conv => whnf))
      refine All'.mk ?_; rintro (e : Int) he
      obtain rfl : c = e := Option.some.inj he
      ((repeat' ((conv => whnf) <;> first | exact True.intro | (guard_target =~ Fork _ _ _; first | refine F1 ?_ | refine F2 ?_ | refine F3 (fun h => ?_) fun h => ?_) | (guard_target =~ Ar _ _ _; first | refine A1 ?_ | refine A2 ?_ | refine A3 ?_) | (guard_target =~ AskL _ _; first | refine L1 ?_) | (guard_target =~ Go.Eng.Ask _ _; first | refine K1 ?_) | (guard_target =~ All' _ _; first | (refine Y2 fun y he he' hy => ?_; (try dsimp only at he he' hy)) | (refine Y1 fun y he hy => ?_; (try with_reducible conv at he => (rhs; whnf)); (try dsimp only at he hy))) | refine F4 (fun h => ?_) fun h => ?_ | refine R1 ?_ | refine Q1 ?_ | fail)); all_goals (conv => whnf))
      refine All'.mk ?_; rintro (e : Int) he
      obtain rfl : c = e := Option.some.inj he
      ((repeat' ((conv => whnf) <;> first | exact True.intro | (guard_target =~ Fork _ _ _; first | refine F1 ?_ | refine F2 ?_ | refine F3 (fun h => ?_) fun h => ?_) | (guard_target =~ Ar _ _ _; first | refine A1 ?_ | refine A2 ?_ | refine A3 ?_) | (guard_target =~ Go.Eng.Ask _ _; first | refine K1 ?_) | (guard_target =~ All' _ _; first | (refine Y2 fun y he he' hy => ?_; (try dsimp only at he he' hy)) | (refine Y1 fun y he hy => ?_; (try with_reducible conv at he => (rhs; whnf)); (try dsimp only at he hy)) | (refine All'.mk ?_; intro y hy)) | refine F4 (fun h => ?_) fun h => ?_ | refine R1 ?_ | refine Q1 ?_ | fail)); all_goals (conv => whnf))
      refine AskL.mk ?_ trivial
      dsimp only [conj]
      rw [hn]
      exact ⟨⟨hw1, rfl⟩, rfl⟩
    · by_cases h2 : (l.length : Int) < c - 247
      · have hn : numS (c :: l) = (0, 0, 10) := by rw [numS_cons, if_neg h1, if_pos h2]
        ((repeat' ((conv => whnf) <;> first | exact True.intro | (guard_target =~ Fork _ _ _; first | refine F1 ?_ | refine F2 ?_ | refine F3 (fun h => ?_) fun h => ?_) | (guard_target =~ Ar _ _ _; first | refine A1 ?_ | refine A2 ?_ | refine A3 ?_) | (guard_target =~ AskL _ _; first | refine L1 ?_) | (guard_target =~ Go.Eng.Ask _ _; first | refine K1 ?_) | (guard_target =~ All' _ _; first | (refine Y2 fun y he he' hy => ?_; (try dsimp only at he he' hy)) | (refine Y1 fun y he hy => ?_; (try with_reducible conv at he => (rhs; whnf)); (try dsimp only at he hy))) | refine F4 (fun h => ?_) fun h => ?_ | refine R1 ?_ | refine Q1 ?_ | fail)); all_goals (conv => whnf))
        refine All'.mk ?_; rintro (e : Int) he
        obtain rfl : c = e := Option.some.inj he
        ((repeat' ((conv => whnf) <;> first | exact True.intro | (guard_target =~ Fork _ _ _; first | refine F1 ?_ | refine F2 ?_ | refine F3 (fun h => ?_) fun h => ?_) | (guard_target =~ Ar _ _ _; first | refine A1 ?_ | refine A2 ?_ | refine A3 ?_) | (guard_target =~ AskL _ _; first | refine L1 ?_) | (guard_target =~ Go.Eng.Ask _ _; first | refine K1 ?_) | (guard_target =~ All' _ _; first | (refine Y2 fun y he he' hy => ?_; (try dsimp only at he he' hy)) | (refine Y1 fun y he hy => ?_; (try with_reducible conv at he => (rhs; whnf)); (try dsimp only at he hy))) | refine F4 (fun h => ?_) fun h => ?_ | refine R1 ?_ | refine Q1 ?_ | fail)); all_goals (conv => whnf))
        refine All'.mk ?_; rintro (e : Int) he
        obtain rfl : c = e := Option.some.inj he
        exact G1
      · ((repeat' ((conv => whnf) <;> first | exact True.intro | (guard_target =~ Fork _ _ _; first | refine F1 ?_ | refine F2 ?_ | refine F3 (fun h => ?_) fun h => ?_) | (guard_target =~ Ar _ _ _; first | refine A1 ?_ | refine A2 ?_ | refine A3 ?_) | (guard_target =~ AskL _ _; first | refine L1 ?_) | (guard_target =~ Go.Eng.Ask _ _; first | refine K1 ?_) | (guard_target =~ All' _ _; first | (refine Y2 fun y he he' hy => ?_; (try dsimp only at he he' hy)) | (refine Y1 fun y he hy => ?_; (try with_reducible conv at he => (rhs; whnf)); (try dsimp only at he hy))) | refine F4 (fun h => ?_) fun h => ?_ | refine R1 ?_ | refine Q1 ?_ | fail)); all_goals (conv => whnf))
        refine All'.mk ?_; rintro (e : Int) he
        obtain rfl : c = e := Option.some.inj he
        ((repeat' ((conv => whnf) <;> first | exact True.intro | (guard_target =~ Fork _ _ _; first | refine F1 ?_ | refine F2 ?_ | refine F3 (fun h => ?_) fun h => ?_) | (guard_target =~ Ar _ _ _; first | refine A1 ?_ | refine A2 ?_ | refine A3 ?_) | (guard_target =~ AskL _ _; first | refine L1 ?_) | (guard_target =~ Go.Eng.Ask _ _; first | refine K1 ?_) | (guard_target =~ All' _ _; first | (refine Y2 fun y he he' hy => ?_; (try dsimp only at he he' hy)) | (refine Y1 fun y he hy => ?_; (try with_reducible conv at he => (rhs; whnf)); (try dsimp only at he hy))) | refine F4 (fun h => ?_) fun h => ?_ | refine R1 ?_ | refine Q1 ?_ | fail)); all_goals (conv => whnf))
        refine All'.mk ?_; rintro (e : Int) he
        obtain rfl : c = e := Option.some.inj he
        ((repeat' ((conv => whnf) <;> first | exact True.intro | (guard_target =~ Fork _ _ _; first | refine F1 ?_ | refine F2 ?_ | refine F3 (fun h => ?_) fun h => ?_) | (guard_target =~ Ar _ _ _; first | refine A1 ?_ | refine A2 ?_ | refine A3 ?_) | (guard_target =~ AskL _ _; first | refine L1 ?_) | (guard_target =~ Go.Eng.Ask _ _; first | refine K1 ?_) | (guard_target =~ All' _ _; first | (refine Y2 fun y he he' hy => ?_; (try dsimp only at he he' hy)) | (refine Y1 fun y he hy => ?_; (try with_reducible conv at he => (rhs; whnf)); (try dsimp only at he hy))) | refine F4 (fun h => ?_) fun h => ?_ | refine R1 ?_ | refine Q1 ?_ | fail)); all_goals (conv => whnf))
        have hm : ((c :: l).take (1 + c - 247).toNat).drop (Int.toNat 1) = tlY (c :: l) := by
          show ((c :: l).take (1 + c - 247).toNat).drop 1 = l.take (c - 247).toNat
          rw [show (1 + c - 247).toNat = (c - 247).toNat + 1 by omega]; rfl
        have hml : (tlY (c :: l)).length = (c - 247).toNat := by show (l.take (c - 247).toNat).length = _; rw [List.length_take]; omega
        have hmo : okY (tlY (c :: l)) := okY_take (fun x hx => hl x (List.mem_cons_of_mem _ hx)) _
        have hn : numS (c :: l) = if numL (beV (tlY (c :: l))) = c :: tlY (c :: l) then (((beV (tlY (c :: l)) : Nat) : Int), c - 246, 0) else (0, 0, 11) := by rw [numS_cons, if_neg h1, if_neg h2]; rfl
        refine Some'.mk (0 : Nat) ?_
        ((repeat' ((conv => whnf) <;> first | exact True.intro | (guard_target =~ Fork _ _ _; first | refine F1 ?_ | refine F2 ?_ | refine F3 (fun h => ?_) fun h => ?_) | (guard_target =~ Ar _ _ _; first | refine A1 ?_ | refine A2 ?_ | refine A3 ?_) | (guard_target =~ Go.Eng.Ask _ _; first | refine K1 ?_) | (guard_target =~ All' _ _; first | (refine Y2 fun y he he' hy => ?_; (try dsimp only at he he' hy)) | (refine Y1 fun y he hy => ?_; (try with_reducible conv at he => (rhs; whnf)); (try dsimp only at he hy)) | (refine All'.mk ?_; intro y hy)) | refine F4 (fun h => ?_) fun h => ?_ | refine R1 ?_ | refine Q1 ?_ | fail)); all_goals (conv => whnf))
        refine AskL.mk ?_ ?_
        · (dsimp only [conj]; repeat' apply And.intro) <;> first | rfl | (show 1 + IntKind.i64.wrap c - 247 = c - 246; rw [hw2]; omega) | (show SV.ro true (Ty.int .u8) (List.drop (Int.toNat 1) (List.take (1 + IntKind.i64.wrap c - 247).toNat (c :: l))) = _; rw [hw2]; exact congrArg (SV.ro true (Ty.int .u8)) hm) | (show ((List.drop (Int.toNat 1) (List.take (1 + IntKind.i64.wrap c - 247).toNat (c :: l))).length : Int) = _; rw [hw2, hm])
        refine Ask.mk (Nat.zero_le _) ?_
        refine AllI.mk ?_
        rintro (i : Nat) hi
        ((repeat' ((conv => whnf) <;> first | exact True.intro | (guard_target =~ Fork _ _ _; first | refine F1 ?_ | refine F2 ?_ | refine F3 (fun h => ?_) fun h => ?_) | (guard_target =~ Ar _ _ _; first | refine A1 ?_ | refine A2 ?_ | refine A3 ?_) | (guard_target =~ AskL _ _; first | refine L1 ?_) | (guard_target =~ Go.Eng.Ask _ _; first | refine K1 ?_) | (guard_target =~ All' _ _; first | (refine Y2 fun y he he' hy => ?_; (try dsimp only at he he' hy)) | (refine Y1 fun y he hy => ?_; (try with_reducible conv at he => (rhs; whnf)); (try dsimp only at he hy))) | refine F4 (fun h => ?_) fun h => ?_ | refine R1 ?_ | refine Q1 ?_ | fail)); all_goals (conv => whnf))
        · refine All'.mk ?_; rintro (e : Int) he
          have he : (tlY (c :: l))[i]? = some e := he
          have hem : 0 ≤ e ∧ e < 256 := hmo e (List.mem_of_getElem? he)
          have hil : i < (tlY (c :: l)).length := (List.getElem?_eq_some_iff.1 he).1
          have ht : (tlY (c :: l)).take (i + 1) = (tlY (c :: l)).take i ++ [e] := by rw [List.take_add_one, he]; rfl
          have hb : beV ((tlY (c :: l)).take i) < 72057594037927936 := by
            have := beV_lt 7 ((tlY (c :: l)).take i) (by rw [List.length_take]; omega) (okY_take hmo _)
            omega
          have hm0 : (numberL (c :: l)).pre (i + 1) := hil
          have hwe : IntKind.u64.wrap e = e := wrap_u64 (by omega) (by omega)
          have hen : (e.toNat : Int) = e := by omega
          have h8 : ((beV ((tlY (c :: l)).take i) : Nat) : Int) * 2 ^ min (Int.toNat 8) IntKind.u64.bits = ((beV ((tlY (c :: l)).take i) : Nat) : Int) * 256 := rfl
          have hwf : IntKind.u64.wrap (((beV ((tlY (c :: l)).take i) : Nat) : Int) * 256) = ((beV ((tlY (c :: l)).take i) : Nat) : Int) * 256 := wrap_u64 (by omega) (by omega)
          have hor := or_byte (beV ((tlY (c :: l)).take i)) e.toNat hb (by omega)
          rw [hen, ← beV_snoc, ← ht] at hor
          rw [← hwe] at hor
          ((repeat' ((conv => whnf) <;> first | exact True.intro | (guard_target =~ Fork _ _ _; first | refine F1 ?_ | refine F2 ?_ | refine F3 (fun h => ?_) fun h => ?_) | (guard_target =~ Ar _ _ _; first | refine A1 ?_ | refine A2 ?_ | refine A3 ?_) | (guard_target =~ AskL _ _; first | refine L1 ?_) | (guard_target =~ Go.Eng.Ask _ _; first | refine K1 ?_) | (guard_target =~ All' _ _; first | (refine Y2 fun y he he' hy => ?_; (try dsimp only at he he' hy)) | (refine Y1 fun y he hy => ?_; (try with_reducible conv at he => (rhs; whnf)); (try dsimp only at he hy))) | refine F4 (fun h => ?_) fun h => ?_ | refine R1 ?_ | refine Q1 ?_ | fail)); all_goals (conv => whnf))
          refine Some'.mk (i + 1) ?_
          have hmu : (numberL (c :: l)).mu (i + 1) < (numberL (c :: l)).mu i := by show (tlY (c :: l)).length - (i + 1) < (tlY (c :: l)).length - i; omega
          ((repeat' ((conv => whnf) <;> first | exact True.intro | (guard_target =~ Fork _ _ _; first | refine F1 ?_ | refine F2 ?_ | refine F3 (fun h => ?_) fun h => ?_) | (guard_target =~ Ar _ _ _; first | refine A1 ?_ | refine A2 ?_ | refine A3 ?_) | (guard_target =~ Go.Eng.Ask _ _; first | refine K1 ?_) | (guard_target =~ All' _ _; first | (refine Y2 fun y he he' hy => ?_; (try dsimp only at he he' hy)) | (refine Y1 fun y he hy => ?_; (try with_reducible conv at he => (rhs; whnf)); (try dsimp only at he hy)) | (refine All'.mk ?_; intro y hy)) | refine F4 (fun h => ?_) fun h => ?_ | refine R1 ?_ | refine Q1 ?_ | fail)); all_goals (conv => whnf))
          refine AskL.mk ?_ (Ask.mk hm0 (Ask.mk hmu trivial))
          (dsimp only [conj]; repeat' apply And.intro) <;> first | rfl | exact hor
        · have hie : i = (tlY (c :: l)).length := by
            have : i ≤ (tlY (c :: l)).length := hi
            omega
          subst hie
          have hb := beV_lt 8 (tlY (c :: l)) (by omega) hmo
          have htk : (tlY (c :: l)).take (tlY (c :: l)).length = tlY (c :: l) := List.take_length
          rw [htk]
          have hzb := num_back (c := c) hmo (by omega) (by omega)
          refine CallP.mk (C := sizeC) (beV (tlY (c :: l))) ?_
          have hb : beV (tlY (c :: l)) < 18446744073709551616 := by omega
          refine AskL.mk rfl (Ask.mk hb (All'.mk ?_))
          rintro (sz : Int) ⟨hsz, -⟩
          have hsz : sz = sizeV (beV (tlY (c :: l))) := hsz
          rw [← hsz] at hzb
          clear hsz
          ((repeat' ((conv => whnf) <;> first | exact True.intro | (guard_target =~ Fork _ _ _; first | refine F1 ?_ | refine F2 ?_ | refine F3 (fun h => ?_) fun h => ?_) | (guard_target =~ Ar _ _ _; first | refine A1 ?_ | refine A2 ?_ | refine A3 ?_) | (guard_target =~ Go.Eng.Ask _ _; first | refine K1 ?_) | (guard_target =~ All' _ _; first | (refine Y2 fun y he he' hy => ?_; (try dsimp only at he he' hy)) | (refine Y1 fun y he hy => ?_; (try with_reducible conv at he => (rhs; whnf)); (try dsimp only at he hy)) | (refine All'.mk ?_; intro y hy)) | refine F4 (fun h => ?_) fun h => ?_ | refine R1 ?_ | refine Q1 ?_ | fail)); all_goals (conv => whnf))
          · refine AskL.mk ?_ trivial
            dsimp only [conj]
            have hne : ¬ numL (beV (tlY (c :: l))) = c :: tlY (c :: l) := fun h9 => by
              have h8 := hzb.2 h9
              have h7 : ¬sz = c - 246 := h
              omega
            rw [hn, if_neg hne]
            exact ⟨⟨rfl, rfl⟩, rfl⟩
          · refine AskL.mk ?_ trivial
            dsimp only [conj]
            have hne : numL (beV (tlY (c :: l))) = c :: tlY (c :: l) := hzb.1 (by
              have h7 : sz = c - 246 := h
              omega)
            rw [hn, if_pos hne, htk]
            exact ⟨⟨rfl, rfl⟩, rfl⟩
end Go.Proofs.YtoaaieiiamdopaaGreatDoor

set_option linter.unusedVariables false
set_option linter.unusedSimpArgs false
set_option maxRecDepth 100000
set_option maxHeartbeats 4000000
namespace Go.Proofs.YtoaaieiiamdopaaGreatDoor
open Go.Eng
variable [DM]
set_option linter.unusedSectionVars false
@[reducible] def cloneFC : Ctr := { cloneBC with res := fun x _ => .ro false (.int .u8) x, out := fun _ _ => [] }
theorem cloneF_ok : cloneFC.ok Tryz.prog 49 := ctr_freeze (C := cloneBC) (fun _ => rfl) (fun _ => rfl) cloneB_ok
/-- An eye's memory: the bytes that are left, the error. -/
@[reducible] def eyeE (j : Nat) (l : List Int) (e : Int) : En := [(j, .cells 73 [.ro false (.int .u8) l, .v (.int .i64 e)])]
@[reducible] def readC : Ctr := {
  X := List Int
  Y := Unit
  args := fun x => [.ro true (.int .u8) x]
  rw := fun _ => []
  side := fun x => x.length ≤ 274877906944
  val := fun _ => ()
  ens := fun _ _ => True
  res := fun _ _ => .ptr 1000 0
  out := fun x _ => eyeE 1000 x 0 }
theorem knownY1 : Known Tryz.prog (gOf [(49, cloneFC)]) := known_cons ⟨cloneF_ok, Tryz.call49⟩ (known_nil _)
theorem read_ok : readC.ok Tryz.prog 13 := by
  refine ok_of_vc (An := fun _ => anOf []) knownY1 mo Tryz.func13 (by kernel_rfl) (by kernel_rfl) (fun _ _ => trivial) (fun (x : List Int) hs => ?_)
  have hs : x.length ≤ 274877906944 := hs
  ((repeat' ((conv => whnf) <;> first | exact True.intro | (guard_target =~ Fork _ _ _; first | refine F1 ?_ | refine F2 ?_ | refine F3 (fun h => ?_) fun h => ?_) | (guard_target =~ Ar _ _ _; first | refine A1 ?_ | refine A2 ?_ | refine A3 ?_) | (guard_target =~ AskL _ _; first | refine L1 ?_) | (guard_target =~ Go.Eng.Ask _ _; first | refine K1 ?_) | (guard_target =~ All' _ _; first | (refine Y2 fun y he he' hy => ?_; (try dsimp only at he he' hy)) | (refine Y1 fun y he hy => ?_; (try with_reducible conv at he => (rhs; whnf)); (try dsimp only at he hy)) | (refine All'.mk ?_; intro y hy)) | refine F4 (fun h => ?_) fun h => ?_ | refine R1 ?_ | refine Q1 ?_ | fail)); all_goals (conv => whnf))
  refine CallP.mk (C := cloneFC) x ?_
  exact G1

structure EyX where
  l : List Int
  e : Int
@[reducible] def errC : Ctr := {
  X := EyX
  Y := Unit
  args := fun x => [.ptr 0 0]
  rw := fun x => eyeE 0 x.l x.e
  side := fun _ => True
  val := fun _ => ()
  ens := fun _ _ => True
  res := fun x _ => .v (.int .i64 x.e)
  out := fun x _ => eyeE 0 x.l x.e }
theorem err_ok : errC.ok Tryz.prog 20 := by
  refine ok_of_vc (An := fun _ => anOf []) (known_nil _) mo Tryz.func20 (by kernel_rfl) (by kernel_rfl) (fun _ _ => trivial) (fun (x : EyX) hs => ?_)
  exact G1
/-- After a fault. -/
def failL (x : EyX) (f : Int) : List Int := if x.e = 0 ∧ f ≠ 0 then [] else x.l
def failE (x : EyX) (f : Int) : Int := if x.e = 0 ∧ f ≠ 0 then f else x.e
@[reducible] def failC : Ctr := {
  X := EyX × Int
  Y := Unit
  args := fun x => [.ptr 0 0, .v (.int .i64 x.2)]
  rw := fun x => eyeE 0 x.1.l x.1.e
  side := fun _ => True
  val := fun _ => ()
  ens := fun _ _ => True
  res := fun x _ => .tuple []
  out := fun x _ => eyeE 0 (failL x.1 x.2) (failE x.1 x.2) }
theorem fail_ok : failC.ok Tryz.prog 51 := by
  refine ok_of_vc (An := fun _ => anOf []) (known_nil _) mo Tryz.func51 (by kernel_rfl) (by kernel_rfl) (fun _ _ => trivial) (fun (x : EyX × Int) hs => ?_)
  obtain ⟨⟨l, e⟩, f⟩ := x
  by_cases h1 : e = 0
  · by_cases h2 : f = 0
    · have k1 : failL ⟨l, e⟩ f = l := if_neg (by simp [h2])
      have k2 : failE ⟨l, e⟩ f = e := if_neg (by simp [h2])
      have lm := And.intro k1 k2
      exact G1
    · have k1 : failL ⟨l, e⟩ f = [] := if_pos ⟨h1, h2⟩
      have k2 : failE ⟨l, e⟩ f = f := if_pos ⟨h1, h2⟩
      have lm := And.intro k1 k2
      exact G1
  · have k1 : failL ⟨l, e⟩ f = l := if_neg (by simp [h1])
    have k2 : failE ⟨l, e⟩ f = e := if_neg (by simp [h1])
    have lm := And.intro k1 k2
    exact G1
@[reducible] def takeC : Ctr := {
  X := EyX × Int
  Y := Unit
  args := fun x => [.ptr 0 0, .v (.int .i64 x.2)]
  rw := fun x => eyeE 0 x.1.l x.1.e
  side := fun x => 0 ≤ x.2 ∧ x.2 ≤ (x.1.l.length : Nat) ∧ x.1.l.length ≤ 274877906944
  val := fun _ => ()
  ens := fun _ _ => True
  res := fun x _ => .ro false (.int .u8) (x.1.l.take x.2.toNat)
  out := fun x _ => eyeE 0 (x.1.l.drop x.2.toNat) x.1.e }
theorem take_ok : takeC.ok Tryz.prog 76 := by
  refine ok_of_vc (An := fun _ => anOf []) (known_nil _) mo Tryz.func76 (by kernel_rfl) (by kernel_rfl) (fun _ _ => trivial) (fun (x : EyX × Int) hs => ?_)
  obtain ⟨⟨l, e⟩, n⟩ := x
  have hs : 0 ≤ n ∧ n ≤ (l.length : Nat) ∧ l.length ≤ 274877906944 := hs
  have h1 : l.take ((l.length : Nat) : Int).toNat = l := by rw [Int.toNat_natCast, List.take_length]
  ((repeat' ((conv => whnf) <;> first | exact True.intro | (guard_target =~ Fork _ _ _; first | refine F1 ?_ | refine F2 ?_ | refine F3 (fun h => ?_) fun h => ?_) | (guard_target =~ Ar _ _ _; first | refine A1 ?_ | refine A2 ?_ | refine A3 ?_) | (guard_target =~ Go.Eng.Ask _ _; first | refine K1 ?_) | (guard_target =~ All' _ _; first | (refine Y2 fun y he he' hy => ?_; (try dsimp only at he he' hy)) | (refine Y1 fun y he hy => ?_; (try with_reducible conv at he => (rhs; whnf)); (try dsimp only at he hy)) | (refine All'.mk ?_; intro y hy)) | refine F4 (fun h => ?_) fun h => ?_ | refine R1 ?_ | refine Q1 ?_ | fail)); all_goals (conv => whnf))
  refine AskL.mk ?_ trivial
  dsimp only [conj]
  rw [h1]
  exact ⟨⟨rfl, rfl⟩, rfl⟩

def numF (l : List Int) (m : Int) : Int := if (numS l).2.2 = 0 ∧ m < (numS l).1 then 12 else (numS l).2.2
/-- What Number answers, and what is left. -/
def eyS (x : EyX) (m : Int) : Int × EyX := if x.e = 0 then (if numF x.l m = 0 then ((numS x.l).1, ⟨x.l.drop (numS x.l).2.1.toNat, 0⟩) else (0, ⟨[], numF x.l m⟩)) else (0, x)
@[reducible] def eyNumC : Ctr := {
  X := EyX × Int
  Y := Unit
  args := fun x => [.ptr 0 0, .v (.int .u64 x.2)]
  rw := fun x => eyeE 0 x.1.l x.1.e
  side := fun x => okY x.1.l ∧ x.1.l.length ≤ 274877906944
  val := fun _ => ()
  ens := fun _ _ => True
  res := fun x _ => .v (.int .u64 (eyS x.1 x.2).1)
  out := fun x _ => eyeE 0 (eyS x.1 x.2).2.l (eyS x.1 x.2).2.e }
theorem knownY2 : Known Tryz.prog (gOf [(75, numberC), (51, failC), (76, takeC)]) :=
  known_cons ⟨number_ok, Tryz.call75⟩ (known_cons ⟨fail_ok, Tryz.call51⟩ (known_cons ⟨take_ok, Tryz.call76⟩ (known_nil _)))
theorem eyNum_ok : eyNumC.ok Tryz.prog 50 := by
  refine ok_of_vc (An := fun _ => anOf []) knownY2 mo Tryz.func50 (by kernel_rfl) (by kernel_rfl) (fun _ _ => trivial) (fun (x : EyX × Int) hs => ?_)
  obtain ⟨⟨l, e⟩, m⟩ := x
  obtain ⟨hl, hlen⟩ := hs
  have hl : okY l := hl
  have hlen : l.length ≤ 274877906944 := hlen
  by_cases h1 : e = 0
  · subst h1
    have hok : okY l ∧ l.length ≤ 9223372036854775807 := ⟨hl, by omega⟩
    have hrg : (numS l).2.2 = 0 → 1 ≤ (numS l).2.1 ∧ (numS l).2.1 ≤ l.length ∧ 0 ≤ (numS l).1 ∧ (numS l).1 < 18446744073709551616 := numS_rng hl
    by_cases h2 : (numS l).2.2 = 0
    · have hrg := hrg h2
      by_cases h3 : m < (numS l).1
      · have k0 : numF l m = 12 := if_pos ⟨h2, h3⟩
        have k1 : eyS ⟨l, 0⟩ m = (0, ⟨[], 12⟩) := by unfold eyS; rw [if_pos rfl, if_neg (by rw [k0]; decide), k0]
        have k2 : failL ⟨l, 0⟩ 12 = [] := if_pos ⟨rfl, by decide⟩
        have k3 : failE ⟨l, 0⟩ 12 = 12 := if_pos ⟨rfl, by decide⟩
        have lm := And.intro k1 (And.intro k2 k3)
        ((repeat' ((conv => whnf) <;> first | exact True.intro | (guard_target =~ Fork _ _ _; first | refine F1 ?_ | refine F2 ?_ | refine F3 (fun h => ?_) fun h => ?_) | (guard_target =~ Ar _ _ _; first | refine A1 ?_ | refine A2 ?_ | refine A3 ?_) | (guard_target =~ AskL _ _; first | refine L1 ?_) | (guard_target =~ Go.Eng.Ask _ _; first | refine K1 ?_) | (guard_target =~ All' _ _; first | (refine Y2 fun y he he' hy => ?_; (try dsimp only at he he' hy)) | (refine Y1 fun y he hy => ?_; (try with_reducible conv at he => (rhs; whnf)); (try dsimp only at he hy)) | (refine All'.mk ?_; intro y hy)) | refine F4 (fun h => ?_) fun h => ?_ | refine R1 ?_ | refine Q1 ?_ | fail)); all_goals (conv => whnf))
        refine CallP.mk (C := numberC) l ?_
        ((repeat' ((conv => whnf) <;> first | exact True.intro | (guard_target =~ Fork _ _ _; first | refine F1 ?_ | refine F2 ?_ | refine F3 (fun h => ?_) fun h => ?_) | (guard_target =~ Ar _ _ _; first | refine A1 ?_ | refine A2 ?_ | refine A3 ?_) | (guard_target =~ AskL _ _; first | refine L1 ?_) | (guard_target =~ Go.Eng.Ask _ _; first | refine K1 ?_) | (guard_target =~ All' _ _; first | (refine Y2 fun y he he' hy => ?_; (try dsimp only at he he' hy)) | (refine Y1 fun y he hy => ?_; (try with_reducible conv at he => (rhs; whnf)); (try dsimp only at he hy)) | (refine All'.mk ?_; intro y hy)) | refine F4 (fun h => ?_) fun h => ?_ | refine R1 ?_ | refine Q1 ?_ | fail)); all_goals (conv => whnf))
        refine CallP.mk (C := failC) (⟨l, 0⟩, 12) ?_
        exact G1
      · have k0 : numF l m = 0 := by unfold numF; rw [if_neg (by omega), h2]
        have k1 : eyS ⟨l, 0⟩ m = ((numS l).1, ⟨l.drop (numS l).2.1.toNat, 0⟩) := by unfold eyS; rw [if_pos rfl, if_pos k0]
        have lm := k1
        ((repeat' ((conv => whnf) <;> first | exact True.intro | (guard_target =~ Fork _ _ _; first | refine F1 ?_ | refine F2 ?_ | refine F3 (fun h => ?_) fun h => ?_) | (guard_target =~ Ar _ _ _; first | refine A1 ?_ | refine A2 ?_ | refine A3 ?_) | (guard_target =~ AskL _ _; first | refine L1 ?_) | (guard_target =~ Go.Eng.Ask _ _; first | refine K1 ?_) | (guard_target =~ All' _ _; first | (refine Y2 fun y he he' hy => ?_; (try dsimp only at he he' hy)) | (refine Y1 fun y he hy => ?_; (try with_reducible conv at he => (rhs; whnf)); (try dsimp only at he hy)) | (refine All'.mk ?_; intro y hy)) | refine F4 (fun h => ?_) fun h => ?_ | refine R1 ?_ | refine Q1 ?_ | fail)); all_goals (conv => whnf))
        refine CallP.mk (C := numberC) l ?_
        ((repeat' ((conv => whnf) <;> first | exact True.intro | (guard_target =~ Fork _ _ _; first | refine F1 ?_ | refine F2 ?_ | refine F3 (fun h => ?_) fun h => ?_) | (guard_target =~ Ar _ _ _; first | refine A1 ?_ | refine A2 ?_ | refine A3 ?_) | (guard_target =~ AskL _ _; first | refine L1 ?_) | (guard_target =~ Go.Eng.Ask _ _; first | refine K1 ?_) | (guard_target =~ All' _ _; first | (refine Y2 fun y he he' hy => ?_; (try dsimp only at he he' hy)) | (refine Y1 fun y he hy => ?_; (try with_reducible conv at he => (rhs; whnf)); (try dsimp only at he hy)) | (refine All'.mk ?_; intro y hy)) | refine F4 (fun h => ?_) fun h => ?_ | refine R1 ?_ | refine Q1 ?_ | fail)); all_goals (conv => whnf))
        have ht : 0 ≤ (numS l).2.1 ∧ (numS l).2.1 ≤ (l.length : Nat) ∧ l.length ≤ 274877906944 := ⟨by omega, hrg.2.1, hlen⟩
        refine CallP.mk (C := takeC) (⟨l, 0⟩, (numS l).2.1) ?_
        exact G1
    · have k0 : numF l m = (numS l).2.2 := by unfold numF; rw [if_neg (by omega)]
      have k1 : eyS ⟨l, 0⟩ m = (0, ⟨[], (numS l).2.2⟩) := by unfold eyS; rw [if_pos rfl, if_neg (by rw [k0]; exact h2), k0]
      have k2 : failL ⟨l, 0⟩ (numS l).2.2 = [] := if_pos ⟨rfl, h2⟩
      have k3 : failE ⟨l, 0⟩ (numS l).2.2 = (numS l).2.2 := if_pos ⟨rfl, h2⟩
      have lm := And.intro k1 (And.intro k2 k3)
      ((repeat' ((conv => whnf) <;> first | exact True.intro | (guard_target =~ Fork _ _ _; first | refine F1 ?_ | refine F2 ?_ | refine F3 (fun h => ?_) fun h => ?_) | (guard_target =~ Ar _ _ _; first | refine A1 ?_ | refine A2 ?_ | refine A3 ?_) | (guard_target =~ AskL _ _; first | refine L1 ?_) | (guard_target =~ Go.Eng.Ask _ _; first | refine K1 ?_) | (guard_target =~ All' _ _; first | (refine Y2 fun y he he' hy => ?_; (try dsimp only at he he' hy)) | (refine Y1 fun y he hy => ?_; (try with_reducible conv at he => (rhs; whnf)); (try dsimp only at he hy)) | (refine All'.mk ?_; intro y hy)) | refine F4 (fun h => ?_) fun h => ?_ | refine R1 ?_ | refine Q1 ?_ | fail)); all_goals (conv => whnf))
      refine CallP.mk (C := numberC) l ?_
      ((repeat' ((conv => whnf) <;> first | exact True.intro | (guard_target =~ Fork _ _ _; first | refine F1 ?_ | refine F2 ?_ | refine F3 (fun h => ?_) fun h => ?_) | (guard_target =~ Ar _ _ _; first | refine A1 ?_ | refine A2 ?_ | refine A3 ?_) | (guard_target =~ AskL _ _; first | refine L1 ?_) | (guard_target =~ Go.Eng.Ask _ _; first | refine K1 ?_) | (guard_target =~ All' _ _; first | (refine Y2 fun y he he' hy => ?_; (try dsimp only at he he' hy)) | (refine Y1 fun y he hy => ?_; (try with_reducible conv at he => (rhs; whnf)); (try dsimp only at he hy)) | (refine All'.mk ?_; intro y hy)) | refine F4 (fun h => ?_) fun h => ?_ | refine R1 ?_ | refine Q1 ?_ | fail)); all_goals (conv => whnf))
      refine CallP.mk (C := failC) (⟨l, 0⟩, (numS l).2.2) ?_
      exact G1
  · have k1 : eyS ⟨l, e⟩ m = (0, ⟨l, e⟩) := if_neg h1
    have lm := k1
    exact G1
def enS (x : EyX) : EyX := if x.l = [] then x else ⟨failL x 13, failE x 13⟩
@[reducible] def endC : Ctr := {
  X := EyX
  Y := Unit
  args := fun x => [.ptr 0 0]
  rw := fun x => eyeE 0 x.l x.e
  side := fun x => x.l.length ≤ 274877906944
  val := fun _ => ()
  ens := fun _ _ => True
  res := fun x _ => .v (.int .i64 (enS x).e)
  out := fun x _ => eyeE 0 (enS x).l (enS x).e }
theorem knownY3 : Known Tryz.prog (gOf [(51, failC), (20, errC)]) :=
  known_cons ⟨fail_ok, Tryz.call51⟩ (known_cons ⟨err_ok, Tryz.call20⟩ (known_nil _))
theorem end_ok : endC.ok Tryz.prog 27 := by
  refine ok_of_vc (An := fun _ => anOf []) knownY3 mo Tryz.func27 (by kernel_rfl) (by kernel_rfl) (fun _ _ => trivial) (fun (x : EyX) hs => ?_)
  obtain ⟨l, e⟩ := x
  have hs : l.length ≤ 274877906944 := hs
  cases l with
  | nil =>
    have k1 : enS ⟨[], e⟩ = ⟨[], e⟩ := if_pos rfl
    have hln : ([] : List Int).length = 0 := rfl
    have lm := k1
    ((repeat' ((conv => whnf) <;> first | exact True.intro | (guard_target =~ Fork _ _ _; first | refine F1 ?_ | refine F2 ?_ | refine F3 (fun h => ?_) fun h => ?_) | (guard_target =~ Ar _ _ _; first | refine A1 ?_ | refine A2 ?_ | refine A3 ?_) | (guard_target =~ AskL _ _; first | refine L1 ?_) | (guard_target =~ Go.Eng.Ask _ _; first | refine K1 ?_) | (guard_target =~ All' _ _; first | (refine Y2 fun y he he' hy => ?_; (try dsimp only at he he' hy)) | (refine Y1 fun y he hy => ?_; (try with_reducible conv at he => (rhs; whnf)); (try dsimp only at he hy)) | (refine All'.mk ?_; intro y hy)) | refine F4 (fun h => ?_) fun h => ?_ | refine R1 ?_ | refine Q1 ?_ | fail)); all_goals (conv => whnf))
    refine CallP.mk (C := errC) ⟨[], e⟩ ?_
    exact G1
  | cons c l =>
    have k1 : enS ⟨c :: l, e⟩ = ⟨failL ⟨c :: l, e⟩ 13, failE ⟨c :: l, e⟩ 13⟩ := if_neg (List.cons_ne_nil _ _)
    have hln : (c :: l).length = l.length + 1 := rfl
    have lm := k1
    ((repeat' ((conv => whnf) <;> first | exact True.intro | (guard_target =~ Fork _ _ _; first | refine F1 ?_ | refine F2 ?_ | refine F3 (fun h => ?_) fun h => ?_) | (guard_target =~ Ar _ _ _; first | refine A1 ?_ | refine A2 ?_ | refine A3 ?_) | (guard_target =~ AskL _ _; first | refine L1 ?_) | (guard_target =~ Go.Eng.Ask _ _; first | refine K1 ?_) | (guard_target =~ All' _ _; first | (refine Y2 fun y he he' hy => ?_; (try dsimp only at he he' hy)) | (refine Y1 fun y he hy => ?_; (try with_reducible conv at he => (rhs; whnf)); (try dsimp only at he hy)) | (refine All'.mk ?_; intro y hy)) | refine F4 (fun h => ?_) fun h => ?_ | refine R1 ?_ | refine Q1 ?_ | fail)); all_goals (conv => whnf))
    refine CallP.mk (C := failC) (⟨c :: l, e⟩, 13) ?_
    ((repeat' ((conv => whnf) <;> first | exact True.intro | (guard_target =~ Fork _ _ _; first | refine F1 ?_ | refine F2 ?_ | refine F3 (fun h => ?_) fun h => ?_) | (guard_target =~ Ar _ _ _; first | refine A1 ?_ | refine A2 ?_ | refine A3 ?_) | (guard_target =~ AskL _ _; first | refine L1 ?_) | (guard_target =~ Go.Eng.Ask _ _; first | refine K1 ?_) | (guard_target =~ All' _ _; first | (refine Y2 fun y he he' hy => ?_; (try dsimp only at he he' hy)) | (refine Y1 fun y he hy => ?_; (try with_reducible conv at he => (rhs; whnf)); (try dsimp only at he hy)) | (refine All'.mk ?_; intro y hy)) | refine F4 (fun h => ?_) fun h => ?_ | refine R1 ?_ | refine Q1 ?_ | fail)); all_goals (conv => whnf))
    refine CallP.mk (C := errC) ⟨failL ⟨c :: l, e⟩ 13, failE ⟨c :: l, e⟩ 13⟩ ?_
    exact G1
end Go.Proofs.YtoaaieiiamdopaaGreatDoor

set_option linter.unusedVariables false
set_option linter.unusedSimpArgs false
set_option maxRecDepth 100000
set_option maxHeartbeats 4000000
namespace Go.Proofs.YtoaaieiiamdopaaGreatDoor
open Go.Eng
theorem beL_ok : ∀ u : Nat, okB (beL u) := fun u => by
  induction u using Nat.strongRecOn with
  | _ u ih =>
    rcases Nat.eq_zero_or_pos u with rfl | hp
    · rw [beL_zero]; intro c hc; cases hc
    · rw [beL_pos hp]
      refine okB_app (ih (u / 256) (by omega)) (fun c hc => ?_)
      rcases List.mem_singleton.1 hc with rfl; omega
theorem numL_okB (u : Nat) (h : u < 18446744073709551616) : okB (numL u) := by
  unfold numL
  split
  · intro c hc; rcases List.mem_singleton.1 hc with rfl; omega
  · have := beL_lt 8 u (by omega)
    exact okB_cons (by omega) (beL_ok u)
end Go.Proofs.YtoaaieiiamdopaaGreatDoor

set_option linter.unusedVariables false
set_option linter.unusedSimpArgs false
set_option maxRecDepth 100000
namespace Go.Proofs.YtoaaieiiamdopaaGreatDoor
open Go.Eng
variable [DM]
set_option linter.unusedSectionVars false
theorem right_all : ∀ {c : List Run} {p : Option Run}, rightFrom p c = true → ∀ {i : Nat} {r : Run}, c[i]? = some r → runP r
  | [], _, _, _, _, h => by simp at h
  | x :: l, p, hr, 0, r, h => by
    simp only [rightFrom, Bool.and_eq_true] at hr
    obtain rfl : x = r := by simpa using h
    exact of_decide_eq_true hr.1.1
  | x :: l, p, hr, i + 1, r, h => by
    simp only [rightFrom, Bool.and_eq_true] at hr
    exact right_all hr.2 (i := i) (by simpa using h)

/-- A run's bytes. -/
def runBy (r : Run) : List Int := numL r.1.toNat ++ (numL r.2.1.toNat ++ numL (r.2.2 - r.2.1).toNat)
def runsBy : List Run → List Int
  | [] => []
  | r :: l => runBy r ++ runsBy l
def clockBy (c : List Run) : List Int := numL c.length ++ runsBy c
theorem runsBy_app : ∀ (a b : List Run), runsBy (a ++ b) = runsBy a ++ runsBy b
  | [], _ => rfl
  | r :: a, b => by simp only [List.cons_append, runsBy, runsBy_app a b, List.append_assoc]
theorem runsBy_step {c : List Run} {i : Nat} {r : Run} (h : c[i]? = some r) : runsBy (c.take (i + 1)) = runsBy (c.take i) ++ runBy r := by
  rw [List.take_add_one, h, runsBy_app]
  show runsBy _ ++ (runBy r ++ []) = _
  rw [List.append_nil]
theorem runBy_le {r : Run} (h : runP r) : (runBy r).length ≤ 27 := by
  have h1 := numL_le (u := r.1.toNat) (by omega)
  have h2 := numL_le (u := r.2.1.toNat) (by omega)
  have h3 := numL_le (u := (r.2.2 - r.2.1).toNat) (by omega)
  simp only [runBy, List.length_append]; omega
theorem runsBy_le {c : List Run} (h : rightB c = true) : ∀ i, i ≤ c.length → (runsBy (c.take i)).length ≤ 27 * i
  | 0, _ => by simp [runsBy]
  | i + 1, hi => by
    obtain ⟨r, hr⟩ := get_ex (show i < c.length by omega)
    have h1 := runsBy_le h i (by omega)
    have h2 := runBy_le (right_all h hr)
    rw [runsBy_step hr, List.length_append]; omega
theorem clockBy_le {c : List Run} (h : rightB c = true) (hl : c.length ≤ 1024) : (clockBy c).length ≤ 27657 := by
  have h1 := runsBy_le h c.length (Nat.le_refl _)
  rw [List.take_length] at h1
  have h2 := numL_le (u := c.length) (by omega)
  simp only [clockBy, List.length_append]; omega

structure PutX where
  bs : List Int
  c : List Run
@[reducible] def dputC : Ctr := {
  X := PutX
  Y := Unit
  args := fun x => [.ptr 0 0, .ro true runT x.c]
  rw := fun x => penE 0 x.bs 1
  side := fun x => rightB x.c = true ∧ x.c.length ≤ 1024 ∧ x.bs.length ≤ 100000000000
  val := fun _ => ()
  ens := fun _ _ => True
  res := fun x y => .v (.bool true)
  out := fun x _ => penE 0 (x.bs ++ clockBy x.c) 1000 }
@[reducible] def dputL (x : PutX) : LA := {
  X := Nat
  pre := fun i => i ≤ x.c.length
  mu := fun i => x.c.length - i
  T := fun i => [(0, .ptr 0 0), (20, .ro true runT x.c), (21, .v (.int .i64 x.c.length)), (22, .v (.int .i64 i))]
  M := fun i => penE 0 (x.bs ++ numL x.c.length ++ runsBy (x.c.take i)) 2 }
theorem knownD3 : Known Tryz.prog (gOf [(24, drightC), (47, numC)]) := known_cons ⟨dright_ok, Tryz.call24⟩ (known_cons ⟨num_ok, Tryz.call47⟩ (known_nil _))
theorem natOf {n : Int} (h : 0 ≤ n) : ∃ k : Nat, n = (k : Int) := ⟨n.toNat, by omega⟩
theorem dput_ok : dputC.ok Tryz.prog 10 := by
  refine ok_of_vc (An := fun (x : PutX) => anOf [(0, .loop (dputL x))]) knownD3 mo Tryz.func10 (by kernel_rfl) (by kernel_rfl) (fun _ _ => trivial) (fun x hs => ?_)
  obtain ⟨bs, c⟩ := x
  have hs : rightB c = true ∧ c.length ≤ 1024 ∧ bs.length ≤ 100000000000 := hs
  obtain ⟨hb, hl, hbl⟩ := hs
  have hw : IntKind.u64.wrap ((c.length : Nat) : Int) = ((c.length : Nat) : Int) := wrap_u64 (by omega) (by omega)
  have hn := numL_le (u := c.length) (by omega)
  ((repeat' ((conv => whnf) <;> first | exact True.intro | (guard_target =~ Fork _ _ _; first | refine F1 ?_ | refine F2 ?_ | refine F3 (fun h => ?_) fun h => ?_) | (guard_target =~ Ar _ _ _; first | refine A1 ?_ | refine A2 ?_ | refine A3 ?_) | (guard_target =~ AskL _ _; first | refine L1 ?_) | (guard_target =~ Go.Eng.Ask _ _; first | refine K1 ?_) | (guard_target =~ All' _ _; first | (refine Y2 fun y he he' hy => ?_; (try dsimp only at he he' hy)) | (refine Y1 fun y he hy => ?_; (try with_reducible conv at he => (rhs; whnf)); (try dsimp only at he hy)) | (refine All'.mk ?_; intro y hy)) | refine F4 (fun h => ?_) fun h => ?_ | refine R1 ?_ | refine Q1 ?_ | fail)); all_goals (conv => whnf))
  refine CallP.mk (C := drightC) c ?_
  ((repeat' ((conv => whnf) <;> first | exact True.intro | (guard_target =~ Fork _ _ _; first | refine F1 ?_ | refine F2 ?_ | refine F3 (fun h => ?_) fun h => ?_) | (guard_target =~ Ar _ _ _; first | refine A1 ?_ | refine A2 ?_ | refine A3 ?_) | (guard_target =~ AskL _ _; first | refine L1 ?_) | (guard_target =~ Go.Eng.Ask _ _; first | refine K1 ?_) | (guard_target =~ All' _ _; first | (refine Y2 fun y he he' hy => ?_; (try dsimp only at he he' hy)) | (refine Y1 fun y he hy => ?_; (try with_reducible conv at he => (rhs; whnf)); (try dsimp only at he hy)) | (refine All'.mk ?_; intro y hy)) | refine F4 (fun h => ?_) fun h => ?_ | refine R1 ?_ | refine Q1 ?_ | fail)); all_goals (conv => whnf))
  clear he
  refine CallP.mk (C := numC) ⟨bs, c.length⟩ ?_
  ((repeat' ((conv => whnf) <;> first | exact True.intro | (guard_target =~ Fork _ _ _; first | refine F1 ?_ | refine F2 ?_ | refine F3 (fun h => ?_) fun h => ?_) | (guard_target =~ Ar _ _ _; first | refine A1 ?_ | refine A2 ?_ | refine A3 ?_) | (guard_target =~ AskL _ _; first | refine L1 ?_) | (guard_target =~ Go.Eng.Ask _ _; first | refine K1 ?_) | (guard_target =~ All' _ _; first | (refine Y2 fun y he he' hy => ?_; (try dsimp only at he he' hy)) | (refine Y1 fun y he hy => ?_; (try with_reducible conv at he => (rhs; whnf)); (try dsimp only at he hy)) | (refine All'.mk ?_; intro y hy)) | refine F4 (fun h => ?_) fun h => ?_ | refine R1 ?_ | refine Q1 ?_ | fail)); all_goals (conv => whnf))
  refine Some'.mk 0 ?_
  have hz : bs ++ numL c.length ++ runsBy (c.take 0) = bs ++ numL c.length := by simp [runsBy]
  have lm := hz
  ((repeat' ((conv => whnf) <;> first | exact True.intro | (guard_target =~ Fork _ _ _; first | refine F1 ?_ | refine F2 ?_ | refine F3 (fun h => ?_) fun h => ?_) | (guard_target =~ Ar _ _ _; first | refine A1 ?_ | refine A2 ?_ | refine A3 ?_) | (guard_target =~ AskL _ _; first | refine L1 ?_) | (guard_target =~ Go.Eng.Ask _ _; first | refine K1 ?_) | (guard_target =~ All' _ _; first | (refine Y2 fun y he he' hy => ?_; (try dsimp only at he he' hy)) | (refine Y1 fun y he hy => ?_; (try with_reducible conv at he => (rhs; whnf)); (try dsimp only at he hy)) | (refine All'.mk ?_; intro y hy)) | refine F4 (fun h => ?_) fun h => ?_ | refine R1 ?_ | refine Q1 ?_ | fail)); all_goals (conv => whnf))
  refine AllI.mk ?_
  rintro (i : Nat) h1
  dsimp only at h1
  clear hz he
  rcases Nat.lt_or_ge i c.length with hlt | hge
  · obtain ⟨⟨m, f, t⟩, hr⟩ := get_ex hlt
    have hrl := runsBy_le hb i (by omega)
    have hst := runsBy_step hr
    obtain ⟨k1, k2, k3, k4, k5⟩ : 0 ≤ m ∧ m ≤ 7 ∧ 1 ≤ f ∧ f ≤ t ∧ t ≤ 1099511627776 := right_all hb hr
    obtain ⟨m, rfl⟩ := natOf k1
    obtain ⟨f, rfl⟩ := natOf (n := f) (by omega)
    obtain ⟨d, hd⟩ := natOf (n := t - f) (by omega)
    have hw1 : IntKind.u64.wrap ((m : Nat) : Int) = ((m : Nat) : Int) := wrap_u64 (by omega) (by omega)
    have hw2 : IntKind.u64.wrap ((f : Nat) : Int) = ((f : Nat) : Int) := wrap_u64 (by omega) (by omega)
    have hw3 : IntKind.u64.wrap (t - ((f : Nat) : Int)) = ((d : Nat) : Int) := by rw [hd, wrap_u64 (by omega) (by omega)]
    have hby : runBy (((m : Nat) : Int), ((f : Nat) : Int), t) = numL m ++ (numL f ++ numL d) := by
      show numL _ ++ (numL _ ++ numL (t - ((f : Nat) : Int)).toNat) = _
      rw [hd]; rfl
    have hn1 := numL_le (u := m) (by omega)
    have hn2 := numL_le (u := f) (by omega)
    have hn3 := numL_le (u := d) (by omega)
    rw [hby] at hst
    clear hby
    generalize hq : runsBy (c.take i) = q at hst hrl
    ((repeat' ((conv => whnf) <;> first | exact True.intro | (guard_target =~ Fork _ _ _; first | refine F1 ?_ | refine F2 ?_ | (refine Fork.pos ?_ ?_; · (simp only [List.length_append, hq, Bool.not_true, Bool.not_false, decide_eq_true_eq, beq_iff_eq, bne_iff_ne, ne_eq] <;> omega)) | (refine Fork.neg ?_ ?_; · (simp only [List.length_append, hq, Bool.not_true, Bool.not_false, decide_eq_false_iff_not, beq_eq_false_iff_ne] <;> omega)) | refine F3 (fun h => ?_) fun h => ?_) | (guard_target =~ Ar _ _ _; first | refine A1 ?_ | refine A2 ?_ | refine A3 ?_ | (refine Ar.fit (wrap_i64 ?_ ?_) ?_; · ((try dsimp only) <;> simp only [List.length_append, hq] <;> omega); · ((try dsimp only) <;> simp only [List.length_append, hq] <;> omega)) | (refine Ar.fit (wrap_u64 ?_ ?_) ?_; · ((try dsimp only) <;> simp only [List.length_append, hq] <;> omega); · ((try dsimp only) <;> simp only [List.length_append, hq] <;> omega))) | (guard_target =~ AskL _ _; first | (refine AskL.mk ?_ ?_; · ((simp only [conj]; repeat' apply And.intro) <;> first | rfl | trivial | omega | (simp only [List.length_append, hq]; done) | (simp only [List.length_append, hq] <;> omega) | (simp only [List.length_append, hq]; refine Bool.eq_iff_iff.2 ?_; simp only [decide_eq_true_eq, Bool.false_eq_true, true_iff, iff_true, false_iff, iff_false, eq_self]; omega) | (simp only [*, List.length_append, hq]; done))) | refine L1 ?_) | (guard_target =~ Go.Eng.Ask _ _; first | refine K1 ?_ | (refine Ask.mk ?_ ?_; · ((try dsimp only) <;> simp only [List.length_append, hq] <;> omega))) | (guard_target =~ All' _ _; first | (refine Y2 fun y he he' hy => ?_; (try dsimp only at he he' hy)) | (refine Y1 fun y he hy => ?_; (try with_reducible conv at he => (rhs; whnf)); (try dsimp only at he hy))) | refine F4 (fun h => ?_) fun h => ?_ | refine R1 ?_ | refine Q1 ?_ | fail)); all_goals (conv => whnf))
    refine All'.mk ?_
    rintro (y : Run) hy
    obtain rfl : (((m : Nat) : Int), ((f : Nat) : Int), t) = y := Option.some.inj (hr.symm.trans hy)
    clear hy
    ((repeat' ((conv => whnf) <;> first | exact True.intro | (guard_target =~ Fork _ _ _; first | refine F1 ?_ | refine F2 ?_ | (refine Fork.pos ?_ ?_; · (simp only [List.length_append, hq, Bool.not_true, Bool.not_false, decide_eq_true_eq, beq_iff_eq, bne_iff_ne, ne_eq] <;> omega)) | (refine Fork.neg ?_ ?_; · (simp only [List.length_append, hq, Bool.not_true, Bool.not_false, decide_eq_false_iff_not, beq_eq_false_iff_ne] <;> omega)) | refine F3 (fun h => ?_) fun h => ?_) | (guard_target =~ Ar _ _ _; first | refine A1 ?_ | refine A2 ?_ | refine A3 ?_ | (refine Ar.fit (wrap_i64 ?_ ?_) ?_; · ((try dsimp only) <;> simp only [List.length_append, hq] <;> omega); · ((try dsimp only) <;> simp only [List.length_append, hq] <;> omega)) | (refine Ar.fit (wrap_u64 ?_ ?_) ?_; · ((try dsimp only) <;> simp only [List.length_append, hq] <;> omega); · ((try dsimp only) <;> simp only [List.length_append, hq] <;> omega))) | (guard_target =~ AskL _ _; first | (refine AskL.mk ?_ ?_; · ((simp only [conj]; repeat' apply And.intro) <;> first | rfl | trivial | omega | (simp only [List.length_append, hq]; done) | (simp only [List.length_append, hq] <;> omega) | (simp only [List.length_append, hq]; refine Bool.eq_iff_iff.2 ?_; simp only [decide_eq_true_eq, Bool.false_eq_true, true_iff, iff_true, false_iff, iff_false, eq_self]; omega) | (simp only [*, List.length_append, hq]; done))) | refine L1 ?_) | (guard_target =~ Go.Eng.Ask _ _; first | refine K1 ?_ | (refine Ask.mk ?_ ?_; · ((try dsimp only) <;> simp only [List.length_append, hq] <;> omega))) | (guard_target =~ All' _ _; first | (refine Y2 fun y he he' hy => ?_; (try dsimp only at he he' hy)) | (refine Y1 fun y he hy => ?_; (try with_reducible conv at he => (rhs; whnf)); (try dsimp only at he hy))) | refine F4 (fun h => ?_) fun h => ?_ | refine R1 ?_ | refine Q1 ?_ | fail)); all_goals (conv => whnf))
    refine CallP.mk (C := numC) ⟨bs ++ numL c.length ++ q, m⟩ ?_
    ((repeat' ((conv => whnf) <;> first | exact True.intro | (guard_target =~ Fork _ _ _; first | refine F1 ?_ | refine F2 ?_ | (refine Fork.pos ?_ ?_; · (simp only [List.length_append, hq, Bool.not_true, Bool.not_false, decide_eq_true_eq, beq_iff_eq, bne_iff_ne, ne_eq] <;> omega)) | (refine Fork.neg ?_ ?_; · (simp only [List.length_append, hq, Bool.not_true, Bool.not_false, decide_eq_false_iff_not, beq_eq_false_iff_ne] <;> omega)) | refine F3 (fun h => ?_) fun h => ?_) | (guard_target =~ Ar _ _ _; first | refine A1 ?_ | refine A2 ?_ | refine A3 ?_ | (refine Ar.fit (wrap_i64 ?_ ?_) ?_; · ((try dsimp only) <;> simp only [List.length_append, hq] <;> omega); · ((try dsimp only) <;> simp only [List.length_append, hq] <;> omega)) | (refine Ar.fit (wrap_u64 ?_ ?_) ?_; · ((try dsimp only) <;> simp only [List.length_append, hq] <;> omega); · ((try dsimp only) <;> simp only [List.length_append, hq] <;> omega))) | (guard_target =~ AskL _ _; first | (refine AskL.mk ?_ ?_; · ((simp only [conj]; repeat' apply And.intro) <;> first | rfl | trivial | omega | (simp only [List.length_append, hq]; done) | (simp only [List.length_append, hq] <;> omega) | (simp only [List.length_append, hq]; refine Bool.eq_iff_iff.2 ?_; simp only [decide_eq_true_eq, Bool.false_eq_true, true_iff, iff_true, false_iff, iff_false, eq_self]; omega) | (simp only [*, List.length_append, hq]; done))) | refine L1 ?_) | (guard_target =~ Go.Eng.Ask _ _; first | refine K1 ?_ | (refine Ask.mk ?_ ?_; · ((try dsimp only) <;> simp only [List.length_append, hq] <;> omega))) | (guard_target =~ All' _ _; first | (refine Y2 fun y he he' hy => ?_; (try dsimp only at he he' hy)) | (refine Y1 fun y he hy => ?_; (try with_reducible conv at he => (rhs; whnf)); (try dsimp only at he hy)) | (refine All'.mk ?_; intro y hy)) | refine F4 (fun h => ?_) fun h => ?_ | refine R1 ?_ | refine Q1 ?_ | fail)); all_goals (conv => whnf))
    clear he
    refine CallP.mk (C := numC) ⟨bs ++ numL c.length ++ q ++ numL m, f⟩ ?_
    ((repeat' ((conv => whnf) <;> first | exact True.intro | (guard_target =~ Fork _ _ _; first | refine F1 ?_ | refine F2 ?_ | (refine Fork.pos ?_ ?_; · (simp only [List.length_append, hq, Bool.not_true, Bool.not_false, decide_eq_true_eq, beq_iff_eq, bne_iff_ne, ne_eq] <;> omega)) | (refine Fork.neg ?_ ?_; · (simp only [List.length_append, hq, Bool.not_true, Bool.not_false, decide_eq_false_iff_not, beq_eq_false_iff_ne] <;> omega)) | refine F3 (fun h => ?_) fun h => ?_) | (guard_target =~ Ar _ _ _; first | refine A1 ?_ | refine A2 ?_ | refine A3 ?_ | (refine Ar.fit (wrap_i64 ?_ ?_) ?_; · ((try dsimp only) <;> simp only [List.length_append, hq] <;> omega); · ((try dsimp only) <;> simp only [List.length_append, hq] <;> omega)) | (refine Ar.fit (wrap_u64 ?_ ?_) ?_; · ((try dsimp only) <;> simp only [List.length_append, hq] <;> omega); · ((try dsimp only) <;> simp only [List.length_append, hq] <;> omega))) | (guard_target =~ AskL _ _; first | (refine AskL.mk ?_ ?_; · ((simp only [conj]; repeat' apply And.intro) <;> first | rfl | trivial | omega | (simp only [List.length_append, hq]; done) | (simp only [List.length_append, hq] <;> omega) | (simp only [List.length_append, hq]; refine Bool.eq_iff_iff.2 ?_; simp only [decide_eq_true_eq, Bool.false_eq_true, true_iff, iff_true, false_iff, iff_false, eq_self]; omega) | (simp only [*, List.length_append, hq]; done))) | refine L1 ?_) | (guard_target =~ Go.Eng.Ask _ _; first | refine K1 ?_ | (refine Ask.mk ?_ ?_; · ((try dsimp only) <;> simp only [List.length_append, hq] <;> omega))) | (guard_target =~ All' _ _; first | (refine Y2 fun y he he' hy => ?_; (try dsimp only at he he' hy)) | (refine Y1 fun y he hy => ?_; (try with_reducible conv at he => (rhs; whnf)); (try dsimp only at he hy)) | (refine All'.mk ?_; intro y hy)) | refine F4 (fun h => ?_) fun h => ?_ | refine R1 ?_ | refine Q1 ?_ | fail)); all_goals (conv => whnf))
    clear he
    refine CallP.mk (C := numC) ⟨bs ++ numL c.length ++ q ++ numL m ++ numL f, d⟩ ?_
    ((repeat' ((conv => whnf) <;> first | exact True.intro | (guard_target =~ Fork _ _ _; first | refine F1 ?_ | refine F2 ?_ | (refine Fork.pos ?_ ?_; · (simp only [List.length_append, hq, Bool.not_true, Bool.not_false, decide_eq_true_eq, beq_iff_eq, bne_iff_ne, ne_eq] <;> omega)) | (refine Fork.neg ?_ ?_; · (simp only [List.length_append, hq, Bool.not_true, Bool.not_false, decide_eq_false_iff_not, beq_eq_false_iff_ne] <;> omega)) | refine F3 (fun h => ?_) fun h => ?_) | (guard_target =~ Ar _ _ _; first | refine A1 ?_ | refine A2 ?_ | refine A3 ?_ | (refine Ar.fit (wrap_i64 ?_ ?_) ?_; · ((try dsimp only) <;> simp only [List.length_append, hq] <;> omega); · ((try dsimp only) <;> simp only [List.length_append, hq] <;> omega)) | (refine Ar.fit (wrap_u64 ?_ ?_) ?_; · ((try dsimp only) <;> simp only [List.length_append, hq] <;> omega); · ((try dsimp only) <;> simp only [List.length_append, hq] <;> omega))) | (guard_target =~ AskL _ _; first | (refine AskL.mk ?_ ?_; · ((simp only [conj]; repeat' apply And.intro) <;> first | rfl | trivial | omega | (simp only [List.length_append, hq]; done) | (simp only [List.length_append, hq] <;> omega) | (simp only [List.length_append, hq]; refine Bool.eq_iff_iff.2 ?_; simp only [decide_eq_true_eq, Bool.false_eq_true, true_iff, iff_true, false_iff, iff_false, eq_self]; omega) | (simp only [*, List.length_append, hq]; done))) | refine L1 ?_) | (guard_target =~ Go.Eng.Ask _ _; first | refine K1 ?_ | (refine Ask.mk ?_ ?_; · ((try dsimp only) <;> simp only [List.length_append, hq] <;> omega))) | (guard_target =~ All' _ _; first | (refine Y2 fun y he he' hy => ?_; (try dsimp only at he he' hy)) | (refine Y1 fun y he hy => ?_; (try with_reducible conv at he => (rhs; whnf)); (try dsimp only at he hy)) | (refine All'.mk ?_; intro y hy)) | refine F4 (fun h => ?_) fun h => ?_ | refine R1 ?_ | refine Q1 ?_ | fail)); all_goals (conv => whnf))
    clear he
    refine Some'.mk (i + 1) ?_
    ((repeat' ((conv => whnf) <;> first | exact True.intro | (guard_target =~ Fork _ _ _; first | refine F1 ?_ | refine F2 ?_ | (refine Fork.pos ?_ ?_; · (simp only [hst, List.append_assoc, Bool.not_true, Bool.not_false, decide_eq_true_eq, beq_iff_eq, bne_iff_ne, ne_eq] <;> omega)) | (refine Fork.neg ?_ ?_; · (simp only [hst, List.append_assoc, Bool.not_true, Bool.not_false, decide_eq_false_iff_not, beq_eq_false_iff_ne] <;> omega)) | refine F3 (fun h => ?_) fun h => ?_) | (guard_target =~ Ar _ _ _; first | refine A1 ?_ | refine A2 ?_ | refine A3 ?_ | (refine Ar.fit (wrap_i64 ?_ ?_) ?_; · ((try dsimp only) <;> simp only [hst, List.append_assoc] <;> omega); · ((try dsimp only) <;> simp only [hst, List.append_assoc] <;> omega)) | (refine Ar.fit (wrap_u64 ?_ ?_) ?_; · ((try dsimp only) <;> simp only [hst, List.append_assoc] <;> omega); · ((try dsimp only) <;> simp only [hst, List.append_assoc] <;> omega))) | (guard_target =~ AskL _ _; first | (refine AskL.mk ?_ ?_; · ((simp only [conj]; repeat' apply And.intro) <;> first | rfl | trivial | omega | (simp only [hst, List.append_assoc]; done) | (simp only [hst, List.append_assoc] <;> omega) | (simp only [hst, List.append_assoc]; refine Bool.eq_iff_iff.2 ?_; simp only [decide_eq_true_eq, Bool.false_eq_true, true_iff, iff_true, false_iff, iff_false, eq_self]; omega) | (simp only [*, hst, List.append_assoc]; done))) | refine L1 ?_) | (guard_target =~ Go.Eng.Ask _ _; first | refine K1 ?_ | (refine Ask.mk ?_ ?_; · ((try dsimp only) <;> simp only [hst, List.append_assoc] <;> omega))) | (guard_target =~ All' _ _; first | (refine Y2 fun y he he' hy => ?_; (try dsimp only at he he' hy)) | (refine Y1 fun y he hy => ?_; (try with_reducible conv at he => (rhs; whnf)); (try dsimp only at he hy)) | (refine All'.mk ?_; intro y hy)) | refine F4 (fun h => ?_) fun h => ?_ | refine R1 ?_ | refine Q1 ?_ | fail)); all_goals (conv => whnf))
  · have hh : c.take i = c := List.take_of_length_le hge
    have hcb : bs ++ numL c.length ++ runsBy (c.take i) = bs ++ clockBy c := by rw [hh, List.append_assoc]; rfl
    have lm := hcb
    exact G1
end Go.Proofs.YtoaaieiiamdopaaGreatDoor
