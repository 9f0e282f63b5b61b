/- Parts of the proof, one behind the other (TxtD, TxtE, DotG, DotH, DotI, DotJ, VerD, SipA, SipB, SipC, SipD, SipE, SipF, SipG). -/
import Derived.Test.YthmbdjhlfieldaaGreatDoorPk9
set_option linter.unusedVariables false
set_option linter.unusedSimpArgs false
set_option linter.unusedSectionVars false
set_option linter.unusedVariables false
set_option linter.unusedSimpArgs false
set_option maxRecDepth 100000
set_option maxHeartbeats 4000000
namespace Go.Proofs.YthmbdjhlfieldaaGreatDoor
open Go.Eng
theorem splitL_app {c : Int} : ∀ (a l : List Int), c ∉ a → splitL c (a ++ c :: l) = a :: splitL c l
  | [], l, _ => by simp [splitL]
  | b :: a, l, h => by
    have h1 : ¬ b = c := fun e => h (by rw [e]; exact List.mem_cons_self ..)
    rw [List.cons_append, splitL_cons_ne h1 (splitL_app a l (fun hc => h (List.mem_cons_of_mem _ hc)))]
theorem decL_isD : ∀ n : Nat, (decL n).all isD = true := fun n => by
  induction n using Nat.strongRecOn with
  | _ n ih =>
    by_cases h : n < 10
    · rw [decL_small h]; simp only [List.all_cons, List.all_nil, Bool.and_true, isD]; exact decide_eq_true (by omega)
    · rw [decL_great h, List.all_append, ih (n / 10) (by omega)]
      simp only [List.all_cons, List.all_nil, Bool.and_true, Bool.true_and, isD]; exact decide_eq_true (by omega)
theorem decL_ne (n : Nat) : decL n ≠ [] := by
  by_cases h : n < 10
  · rw [decL_small h]; simp
  · rw [decL_great h]; simp
theorem numV_dec : ∀ n : Nat, numV (decL n) = n := fun n => by
  induction n using Nat.strongRecOn with
  | _ n ih =>
    by_cases h : n < 10
    · rw [decL_small h]; simp [numV]; omega
    · rw [decL_great h, numV_snoc, ih (n / 10) (by omega)]; omega
theorem parse_fold : ∀ (l : List UInt8) (acc k : Nat), acc < 10 ^ k → l.length + k ≤ 18 → (toI l).all isD = true → ∃ u : Nat, Lib.parseUint10 acc l = .ok u ∧ (u : Int) = (toI l).foldl (fun n c => n * 10 + (c - 48)) (acc : Int) ∧ u < 10 ^ (l.length + k)
  | [], acc, k, h, _, _ => ⟨acc, rfl, rfl, by simpa using h⟩
  | c :: l, acc, k, h, hl, ha => by
    simp only [toI, List.map_cons, List.all_cons, Bool.and_eq_true] at ha
    have hc : 48 ≤ c.toNat ∧ c.toNat ≤ 57 := by
      have := ha.1
      simp only [isD, decide_eq_true_eq] at this
      omega
    have hl' : l.length + (k + 1) ≤ 18 := by simp only [List.length_cons] at hl; omega
    have hp : 10 ^ k ≤ 10 ^ 17 := Nat.pow_le_pow_right (by decide) (by omega)
    have e17 : (10 : Nat) ^ 17 = 100000000000000000 := by decide
    obtain ⟨u, h1, h2, h3⟩ := parse_fold l (acc * 10 + (c.toNat - 48)) (k + 1) (by rw [Nat.pow_succ]; omega) hl' ha.2
    refine ⟨u, ?_, ?_, ?_⟩
    · rw [Lib.parseUint10, if_pos hc, if_neg (by omega), if_neg (by omega)]; exact h1
    · rw [h2]
      show _ = (toI l).foldl _ ((acc : Int) * 10 + ((c.toNat : Int) - 48))
      congr 1; omega
    · rw [List.length_cons, show l.length + 1 + k = l.length + (k + 1) by omega]; exact h3
theorem atoi_num {s : ByteArray} (h : (bytesL s).all isD = true) (h0 : 1 ≤ s.size) (h1 : s.size ≤ 18) : atoiN s = numV (bytesL s) := by
  have hsz : s.data.toList.length = s.size := by simp
  obtain ⟨u, p1, p2, p3⟩ := parse_fold s.data.toList 0 0 (by decide) (by omega) h
  have hu : u < 9223372036854775808 := by
    have : (10 : Nat) ^ (s.data.toList.length + 0) ≤ 10 ^ 18 := Nat.pow_le_pow_right (by decide) (by omega)
    have e18 : (10 : Nat) ^ 18 = 1000000000000000000 := by decide
    omega
  cases hl : s.data.toList with
  | nil => rw [hl] at hsz; simp at hsz; omega
  | cons c r =>
    have hc : isD (c.toNat : Int) = true := by
      have : (toI s.data.toList).all isD = true := h
      rw [hl] at this
      simp only [toI, List.map_cons, List.all_cons, Bool.and_eq_true] at this
      exact this.1
    simp only [isD, decide_eq_true_eq] at hc
    have e : Lib.atoiAll s.data.toList = .ok (u : Int) := by
      rw [hl, Lib.atoiAll_plain c r (by omega) (by omega), ← hl]
      have hm : Lib.parseMag s.data.toList = .ok u := by
        unfold Lib.parseMag
        rw [if_neg (by rw [hl]; simp)]; exact p1
      rw [hm]
      simp only [Lib.signless]
      rw [if_neg (by omega)]
    unfold atoiN
    rw [e]
    exact p2
theorem atoi_dec {n : Int} (h : 0 ≤ n ∧ n ≤ 1099511627776) : atoiN (strOfNums (decL n.toNat)) = n := by
  have hd := decL_isD n.toNat
  have hb : okB (decL n.toNat) := fun c hc => by
    have := List.all_eq_true.1 hd c hc
    simp only [isD, decide_eq_true_eq] at this
    omega
  have h1 := List.length_pos_iff.2 (decL_ne n.toNat)
  have h2 := decL_len 12 n.toNat (by omega)
  rw [atoi_num (by rw [bytes_str hb]; exact hd) (by rw [str_size]; omega) (by rw [str_size]; omega), bytes_str hb, numV_dec]
  omega

theorem split_spc : ∀ (ws : List (List Int)) (w : List Int), 32 ∉ w → (∀ t, t ∈ ws → 32 ∉ t) → splitL 32 (spc (w :: ws)) = w :: ws
  | [], w, hw, _ => by
    have e : spc [w] = w := by simp [spc, spT]
    rw [e]; exact splitL_free hw
  | v :: ws, w, hw, h => by
    have e : spc (w :: v :: ws) = w ++ 32 :: spc (v :: ws) := by simp [spc, spT]
    rw [e, splitL_app _ _ hw, split_spc ws v (h v (List.mem_cons_self ..)) (fun t ht => h t (List.mem_cons_of_mem _ ht))]
theorem spc_split : ∀ l : List Int, spc (splitL 32 l) = l
  | [] => rfl
  | b :: l => by
    have ih := spc_split l
    cases hl : splitL 32 l with
    | nil => exact absurd hl (splitL_ne 32 l)
    | cons v vs =>
      rw [hl] at ih
      by_cases hb : b = 32
      · rw [splitL, if_pos hb, hl]
        have e : spc ([] :: v :: vs) = 32 :: spc (v :: vs) := by simp [spc, spT]
        rw [e, ih, hb]
      · rw [splitL_cons_ne hb hl]
        have e : spc ((b :: v) :: vs) = b :: spc (v :: vs) := by simp [spc]
        rw [e, ih]
theorem index_cons (b c : UInt8) (l : List UInt8) (h : ¬ b = c) : Lib.index (b :: l) [c] = if Lib.index l [c] == -1 then -1 else Lib.index l [c] + 1 := by
  have hp : ([c] : List UInt8).isPrefixOf (b :: l) = false := by simp [List.isPrefixOf, Ne.symm h]
  rw [Lib.index, hp]; simp
theorem index_free : ∀ (c : UInt8) (l : List UInt8), c ∉ l → Lib.index l [c] = -1
  | c, [], _ => by simp [Lib.index]
  | c, b :: l, h => by
    rw [index_cons b c l (fun e => h (by rw [e]; exact List.mem_cons_self ..)), index_free c l (fun hc => h (List.mem_cons_of_mem _ hc))]; rfl
theorem index_app : ∀ (c : UInt8) (a b : List UInt8), c ∉ a → Lib.index (a ++ c :: b) [c] = (a.length : Nat)
  | c, [], b, _ => by simp [Lib.index, List.isPrefixOf]
  | c, x :: a, b, h => by
    have h1 : ¬ x = c := fun e => h (by rw [e]; exact List.mem_cons_self ..)
    rw [List.cons_append, index_cons x c _ h1, index_app c a b (fun hc => h (List.mem_cons_of_mem _ hc))]
    have : (((a.length : Nat) : Int) == -1) = false := by simp
    rw [this]; simp
theorem strs_data (l : List Int) : (strOfNums l).data.toList = l.map fun n => UInt8.ofNat n.toNat := strOfNums_data l
theorem u8_mem {c : Int} {l : List Int} (hl : okB l) (h0 : 0 ≤ c) (h1 : c < 256) (h : c ∉ l) : UInt8.ofNat c.toNat ∉ l.map fun n => UInt8.ofNat n.toNat := fun hm => by
  obtain ⟨x, hx, e⟩ := List.mem_map.1 hm
  have hk := hl x hx
  have e2 := congrArg UInt8.toNat e
  rw [UInt8.toNat_ofNat', UInt8.toNat_ofNat', Nat.mod_eq_of_lt (by omega), Nat.mod_eq_of_lt (by omega)] at e2
  have : x = c := by omega
  exact h (this ▸ hx)
theorem cut_free {c : Int} {l : List Int} (hl : okB l) (h0 : 0 ≤ c) (h1 : c < 256) (h : c ∉ l) : cutS (strOfNums l) (strOfNums [c]) = (strOfNums l, ⟨#[]⟩, false) := by
  unfold cutS Lib.cut
  have e := index_free (UInt8.ofNat c.toNat) _ (u8_mem hl h0 h1 h)
  have e1 : (strOfNums [c]).data.toList = [UInt8.ofNat c.toNat] := strs_data [c]
  rw [e1, strs_data, e, if_neg (by omega), ← strs_data]
theorem cut_at {c : Int} {a b : List Int} (hl : okB a) (h0 : 0 ≤ c) (h1 : c < 256) (h : c ∉ a) : cutS (strOfNums (a ++ [c] ++ b)) (strOfNums [c]) = (strOfNums a, strOfNums b, true) := by
  unfold cutS Lib.cut
  have e1 : (strOfNums [c]).data.toList = [UInt8.ofNat c.toNat] := strs_data [c]
  have e2 : (strOfNums (a ++ [c] ++ b)).data.toList = (strOfNums a).data.toList ++ UInt8.ofNat c.toNat :: (strOfNums b).data.toList := by
    rw [strs_data, strs_data, strs_data]; simp
  have e := index_app (UInt8.ofNat c.toNat) (strOfNums a).data.toList (strOfNums b).data.toList (by rw [strs_data]; exact u8_mem hl h0 h1 h)
  rw [e1, e2, e, if_pos (by omega)]
  have e3 : (((strOfNums a).data.toList.length : Nat) : Int).toNat = (strOfNums a).data.toList.length := by omega
  have d1 : ((strOfNums a).data.toList ++ UInt8.ofNat c.toNat :: (strOfNums b).data.toList).take (strOfNums a).data.toList.length = (strOfNums a).data.toList := List.take_left
  have d2 : ((strOfNums a).data.toList ++ UInt8.ofNat c.toNat :: (strOfNums b).data.toList).drop ((strOfNums a).data.toList.length + [UInt8.ofNat c.toNat].length) = (strOfNums b).data.toList := by rw [← List.drop_drop, List.drop_left]; rfl
  rw [e3]
  dsimp only
  rw [d1, d2]
theorem dec_free {n : Nat} {c : Int} (h : isD c = false) : c ∉ decL n := fun hc => by
  have := List.all_eq_true.1 (decL_isD n) c hc
  rw [h] at this; cases this
theorem okB_dec (n : Nat) : okB (decL n) := fun c hc => by
  have := List.all_eq_true.1 (decL_isD n) c hc
  simp only [isD, decide_eq_true_eq] at this
  omega
def wordR (w : ByteArray) : Run :=
  (atoiN (cutS w (strOfNums [58])).1, atoiN (cutS (cutS w (strOfNums [58])).2.1 (strOfNums [45])).1,
    if (cutS (cutS w (strOfNums [58])).2.1 (strOfNums [45])).2.2 then atoiN (cutS (cutS w (strOfNums [58])).2.1 (strOfNums [45])).2.1 else atoiN (cutS (cutS w (strOfNums [58])).2.1 (strOfNums [45])).1)
theorem wordR_runW {r : Run} (h : runP r) : wordR (strOfNums (runW r)) = r := by
  obtain ⟨m, f, t⟩ := r
  obtain ⟨q1, q2, q3, q4, q5⟩ : 0 ≤ m ∧ m ≤ 7 ∧ 1 ≤ f ∧ f ≤ t ∧ t ≤ 1099511627776 := h
  have hm : atoiN (strOfNums (decL m.toNat)) = m := atoi_dec ⟨q1, by omega⟩
  have hf : atoiN (strOfNums (decL f.toNat)) = f := atoi_dec ⟨by omega, by omega⟩
  have ht : atoiN (strOfNums (decL t.toNat)) = t := atoi_dec ⟨by omega, by omega⟩
  have e1 : runW (m, f, t) = decL m.toNat ++ [58] ++ (decL f.toNat ++ (if f < t then [45] ++ decL t.toNat else [])) := by
    unfold runW; simp only [List.append_assoc]
  have c1 := cut_at (b := decL f.toNat ++ (if f < t then [45] ++ decL t.toNat else [])) (okB_dec m.toNat) (c := 58) (by omega) (by omega) (dec_free (by decide))
  unfold wordR
  rw [e1, c1]
  dsimp only
  by_cases hft : f < t
  · rw [if_pos hft]
    have c2 := cut_at (b := decL t.toNat) (okB_dec f.toNat) (c := 45) (by omega) (by omega) (dec_free (by decide))
    rw [← List.append_assoc, c2]
    dsimp only
    rw [hm, hf, ht]; rfl
  · rw [if_neg hft, List.append_nil]
    have c2 := cut_free (okB_dec f.toNat) (c := 45) (by omega) (by omega) (dec_free (by decide))
    rw [c2]
    dsimp only
    rw [hm, hf]
    have : f = t := by omega
    rw [this]; rfl
theorem okB_runW (r : Run) : okB (runW r) := by
  unfold runW
  refine okB_app (okB_app (okB_app (okB_dec _) ?_) (okB_dec _)) ?_
  · intro c hc; rcases List.mem_singleton.1 hc with rfl; omega
  · split
    · refine okB_app ?_ (okB_dec _)
      intro c hc; rcases List.mem_singleton.1 hc with rfl; omega
    · intro c hc; cases hc
theorem runW_free (r : Run) : (32 : Int) ∉ runW r := by
  unfold runW
  simp only [List.mem_append, List.mem_singleton, not_or]
  refine ⟨⟨⟨dec_free (by decide), by decide⟩, dec_free (by decide)⟩, ?_⟩
  split
  · simp only [List.mem_append, List.mem_singleton, not_or]
    exact ⟨by decide, dec_free (by decide)⟩
  · exact fun h => nomatch h
theorem okB_spc : ∀ ws : List (List Int), (∀ w, w ∈ ws → okB w) → okB (spc ws) := fun ws h => by
  have hT : ∀ ws : List (List Int), (∀ w, w ∈ ws → okB w) → okB (spT ws) := fun ws h c hc => by
    unfold spT at hc
    obtain ⟨w, hw, hcw⟩ := List.mem_flatten.1 hc
    obtain ⟨v, hv, rfl⟩ := List.mem_map.1 hw
    rcases List.mem_cons.1 hcw with rfl | hcw
    · omega
    · exact h v hv c hcw
  cases ws with
  | nil => intro c hc; cases hc
  | cons w ws => exact okB_app (h w (List.mem_cons_self ..)) (hT ws (fun v hv => h v (List.mem_cons_of_mem _ hv)))
/-- The clock that a text is read as. -/
def parse0 (s : ByteArray) : List Run := (splitS s ⟨#[32]⟩).map wordR
theorem parse0_text {c : List Run} (h : rightB c = true) (h0 : c ≠ []) : parse0 (strOfNums (textL c)) = c := by
  have ht : textL c = spc (c.map runW) := by unfold textL; rw [h, if_neg h0]; rfl
  have hok : okB (spc (c.map runW)) := okB_spc _ (fun w hw => by obtain ⟨r, _, rfl⟩ := List.mem_map.1 hw; exact okB_runW r)
  unfold parse0
  rw [ht, show (⟨#[32]⟩ : ByteArray) = ⟨#[(32 : UInt8)]⟩ from rfl, splitS_L, bytes_str hok]
  cases c with
  | nil => exact absurd rfl h0
  | cons r c =>
    have e : ((32 : UInt8).toNat : Int) = 32 := rfl
    rw [e, List.map_cons, split_spc _ _ (runW_free r) (fun t ht => by obtain ⟨r, _, rfl⟩ := List.mem_map.1 ht; exact runW_free r)]
    rw [← List.map_cons, List.map_map, List.map_map]
    conv => rhs; rw [← List.map_id (r :: c)]
    refine List.map_congr_left fun x hx => ?_
    obtain ⟨k, hk⟩ := List.getElem?_of_mem hx
    exact wordR_runW (right_runs h hk)
/-- What Parse answers. -/
def parsedOk (s : ByteArray) : Prop := s = ⟨#[45]⟩ ∨ (s ≠ ⟨#[]⟩ ∧ strOfNums (textL (parse0 s)) = s)
open Classical in
noncomputable def parsedB (s : ByteArray) : Bool := decide (parsedOk s)
open Classical in
noncomputable def parsedL (s : ByteArray) : List Run := if s = ⟨#[45]⟩ then [] else if parsedOk s then parse0 s else []
end Go.Proofs.YthmbdjhlfieldaaGreatDoor

set_option linter.unusedVariables false
set_option linter.unusedSimpArgs false
set_option maxRecDepth 100000
set_option maxHeartbeats 4000000
namespace Go.Proofs.YthmbdjhlfieldaaGreatDoor
open Go.Eng
theorem str_eq {a b : ByteArray} : a.toList = b.toList ↔ a = b := by
  simp only [ByteArray.toList_eq]
  exact ⟨fun h => ByteArray.ext (Array.toList_inj.1 h), fun h => by rw [h]⟩
theorem str_beq (a b : ByteArray) : (a.toList == b.toList) = decide (a = b) := by
  rw [Bool.eq_iff_iff]; simp [str_eq]
open Classical in
theorem parsedB_true {s : ByteArray} (h : parsedOk s) : parsedB s = true := decide_eq_true h
open Classical in
theorem parsedB_false {s : ByteArray} (h : ¬ parsedOk s) : parsedB s = false := decide_eq_false h
theorem parsedL_no {s : ByteArray} (h : ¬ parsedOk s) : parsedL s = [] := by
  unfold parsedL
  by_cases e : s = ⟨#[45]⟩
  · rw [if_pos e]
  · rw [if_neg e, if_neg h]
theorem parsedL_yes {s : ByteArray} (h1 : ¬ s = ⟨#[45]⟩) (h : parsedOk s) : parsedL s = parse0 s := by
  unfold parsedL
  rw [if_neg h1, if_pos h]
theorem bz (l : List UInt8) : (⟨l.toArray⟩ : ByteArray).size = l.length := by show l.toArray.size = _; simp
theorem dz (s : ByteArray) : s.data.toList.length = s.size := by simp
theorem cut_le (s t : ByteArray) : (cutS s t).1.size ≤ s.size ∧ (cutS s t).2.1.size ≤ s.size := by
  unfold cutS
  dsimp only
  have hz := dz s
  have a1 := bz (Lib.cut s.data.toList t.data.toList).1
  have a2 := bz (Lib.cut s.data.toList t.data.toList).2.1
  rw [a1, a2]
  have h : (Lib.cut s.data.toList t.data.toList).1.length ≤ s.data.toList.length ∧ (Lib.cut s.data.toList t.data.toList).2.1.length ≤ s.data.toList.length := by
    unfold Lib.cut
    split
    · dsimp only
      rw [List.length_take, List.length_drop]; omega
    · dsimp only
      exact ⟨Nat.le_refl _, Nat.zero_le _⟩
  rw [hz] at h
  exact h
theorem word_le {s w : ByteArray} (h : w ∈ splitS s ⟨#[32]⟩) : w.size ≤ s.size := by
  rw [show (⟨#[32]⟩ : ByteArray) = ⟨#[(32 : UInt8)]⟩ from rfl, splitS_L] at h
  obtain ⟨l, hl, rfl⟩ := List.mem_map.1 h
  have := (splitL_mem _ _ _ hl).1
  rw [bytesL_length] at this
  rw [str_size]; exact this
theorem words_le (s : ByteArray) : (splitS s ⟨#[32]⟩).length ≤ s.size + 1 := by
  rw [show (⟨#[32]⟩ : ByteArray) = ⟨#[(32 : UInt8)]⟩ from rfl, splitS_L, List.length_map]
  have := splitL_le (((32 : UInt8).toNat : Nat) : Int) (bytesL s)
  rw [bytesL_length] at this; exact this
@[reducible] def dnumC : Ctr := {
  X := ByteArray
  Y := Unit
  args := fun s => [.v (.string s)]
  rw := fun _ => []
  side := fun s => s.size ≤ 281474976710656
  val := fun _ => ()
  ens := fun _ _ => True
  res := fun s _ => .v (.int .i64 (atoiN s))
  out := fun _ _ => [] }
theorem knownT4 : Known Tryz.prog (gOf [(112, atoiC)]) := known_cons ⟨atoi_ok, Tryz.call112⟩ (known_nil _)
theorem dnum_ok : dnumC.ok Tryz.prog 85 := by
  refine ok_of_vc (An := fun _ => anOf []) knownT4 mo Tryz.func85 (by kernel_rfl) (by kernel_rfl) (fun _ _ => trivial) (fun (s : ByteArray) hs => ?_)
  have hs : s.size ≤ 281474976710656 := hs
  have ck : Hc atoiC s True := .mk trivial
  exact G1
noncomputable def dparseC : Ctr := {
  X := ByteArray
  Y := Unit
  args := fun s => [.v (.string s)]
  rw := fun _ => []
  side := fun s => s.size ≤ 100000
  val := fun _ => ()
  ens := fun _ _ => True
  res := fun s _ => .tuple [.sl 1000, .v (.bool (parsedB s))]
  out := fun s _ => [(1000, .row 47 runT (parsedL s))] }
attribute [reducible] dparseC
def wordsR (s : ByteArray) (i : Nat) : List Run := ((splitS s ⟨#[32]⟩).take i).map wordR
@[reducible] def dparseL (s : ByteArray) : LA := {
  X := Nat
  pre := fun i => i ≤ (splitS s ⟨#[32]⟩).length
  mu := fun i => (splitS s ⟨#[32]⟩).length - i
  T := fun i => [(0, .v (.string s)), (4, .sl 2), (20, .ro true .str (splitS s ⟨#[32]⟩)), (21, .v (.int .i64 (splitS s ⟨#[32]⟩).length)), (22, .v (.int .i64 (i : Nat)))]
  M := fun i => [(2, .row 47 runT (wordsR s i))] }
theorem knownT5 : Known Tryz.prog (gOf [(84, splitC), (37, cutC), (85, dnumC), (45, dtextC)]) :=
  known_cons ⟨split_ok, Tryz.call84⟩ (known_cons ⟨cut_ok, Tryz.call37⟩ (known_cons ⟨dnum_ok, Tryz.call85⟩ (known_cons ⟨dtext_ok, Tryz.call45⟩ (known_nil _))))
theorem dparse_ok : dparseC.ok Tryz.prog 38 := by
  refine ok_of_vc (An := fun s => anOf [(1, .loop (dparseL s))]) knownT5 mo Tryz.func38 (by kernel_rfl) (by kernel_rfl) (fun _ _ => trivial) (fun (s : ByteArray) hs => ?_)
  have hs : s.size ≤ 100000 := hs
  by_cases h1 : s = ⟨#[45]⟩
  · subst h1
    have k1 : parsedB ⟨#[45]⟩ = true := parsedB_true (.inl rfl)
    have k2 : parsedL ⟨#[45]⟩ = [] := if_pos rfl
    have lm := And.intro k1 k2
    exact G1
  · by_cases h2 : s = ⟨#[]⟩
    · subst h2
      have k0 : ¬ parsedOk ⟨#[]⟩ := fun h => h.elim (fun e => absurd e h1) (fun e => e.1 rfl)
      have k1 := parsedB_false k0
      have k2 := parsedL_no k0
      have g1 : ¬ (⟨#[]⟩ : ByteArray).toList = (⟨#[45]⟩ : ByteArray).toList := fun h => h1 (str_eq.1 h)
      have lm := And.intro k1 k2
      exact G1
    · have g1 : ¬ s.toList = (⟨#[45]⟩ : ByteArray).toList := fun h => h1 (str_eq.1 h)
      have g2 : ¬ s.toList = (⟨#[]⟩ : ByteArray).toList := fun h => h2 (str_eq.1 h)
      have hwl := words_le s
      (refine Z ?_; repeat' (first | exact .intro | ((first | refine B1 (fun h => ?_) fun h => ?_ | refine B2 fun y he he' hy => ?_ | refine B3 fun y he hy => ?_ | refine B4 fun y hy => ?_ | refine B5 fun ck => ?_ | fail) <;> refine Z ?_)))
      have hsp : s.size < 4294967281 ∧ 1 ≤ (⟨#[32]⟩ : ByteArray).size := ⟨by omega, by decide⟩
      have hw0 : wordsR s 0 = [] := rfl
      refine CallP.mk (C := splitC) ⟨s, ⟨#[32]⟩⟩ ?_
      (refine Z ?_; repeat' (first | exact .intro | ((first | refine B1 (fun h => ?_) fun h => ?_ | refine B2 fun y he he' hy => ?_ | refine B3 fun y he hy => ?_ | refine B4 fun y hy => ?_ | refine B5 fun ck => ?_ | fail) <;> refine Z ?_)))
      refine Some'.mk (0 : Nat) ?_
      have lm := hw0
      (refine Z ?_; repeat' (first | exact .intro | ((first | refine B1 (fun h => ?_) fun h => ?_ | refine B2 fun y he he' hy => ?_ | refine B3 fun y he hy => ?_ | refine B4 fun y hy => ?_ | refine B5 fun ck => ?_ | fail) <;> refine Z ?_)))
      refine AllI.mk ?_
      rintro (i : Nat) hi
      have hi : i ≤ (splitS s ⟨#[32]⟩).length := hi
      by_cases hie : i = (splitS s ⟨#[32]⟩).length
      · subst hie
        have hX : ((splitS s ⟨#[32]⟩).take (splitS s ⟨#[32]⟩).length).map wordR = parse0 s := by rw [List.take_length]; rfl
        have hXl : (((splitS s ⟨#[32]⟩).take (splitS s ⟨#[32]⟩).length).map wordR).length ≤ 1000000 := by rw [hX]; unfold parse0; rw [List.length_map]; omega
        by_cases h3 : strOfNums (textL (parse0 s)) = s
        · have k0 : parsedOk s := .inr ⟨h2, h3⟩
          have k1 := parsedB_true k0
          have k2 : parsedL s = wordsR s (splitS s ⟨#[32]⟩).length := (parsedL_yes h1 k0).trans hX.symm
          have g3 : (strOfNums (textL (((splitS s ⟨#[32]⟩).take (splitS s ⟨#[32]⟩).length).map wordR))).toList = s.toList := by rw [hX, h3]
          clear hX h3
          have lm := And.intro k1 k2
          have ck : Hc dtextC (((splitS s ⟨#[32]⟩).take (splitS s ⟨#[32]⟩).length).map wordR) True := .mk trivial
          exact G1
        · have k0 : ¬ parsedOk s := fun h => h.elim h1 (fun e => h3 e.2)
          have k1 := parsedB_false k0
          have k2 := parsedL_no k0
          have g3 : ¬ (strOfNums (textL (((splitS s ⟨#[32]⟩).take (splitS s ⟨#[32]⟩).length).map wordR))).toList = s.toList := by rw [hX]; exact fun h => h3 (str_eq.1 h)
          clear hX
          have lm := And.intro k1 k2
          have ck : Hc dtextC (((splitS s ⟨#[32]⟩).take (splitS s ⟨#[32]⟩).length).map wordR) True := .mk trivial
          exact G1
      · obtain ⟨w, hce⟩ : ∃ e, (splitS s ⟨#[32]⟩)[i]? = some e := ⟨_, List.getElem?_eq_getElem (by omega)⟩
        have hwz := word_le (List.mem_of_getElem? hce)
        have hstep : wordsR s (i + 1) = wordsR s i ++ [wordR w] := by unfold wordsR; rw [take_get hce, List.map_append]; rfl
        have hpr : (dparseL s).pre (i + 1) := by show i + 1 ≤ (splitS s ⟨#[32]⟩).length; omega
        have hmu : (dparseL s).mu (i + 1) < (dparseL s).mu i := by show (splitS s ⟨#[32]⟩).length - (i + 1) < (splitS s ⟨#[32]⟩).length - i; omega
        obtain ⟨hc1, hc2⟩ := cut_le w ⟨#[58]⟩
        obtain ⟨hc3, hc4⟩ := cut_le (cutS w ⟨#[58]⟩).2.1 ⟨#[45]⟩
        have hap : ∀ x : Run, (wordsR s i).length + [x].length ≤ 274877906944 := fun x => by unfold wordsR; rw [List.length_map, List.length_take, List.length_singleton]; omega
        have hapl : (((splitS s ⟨#[32]⟩).take i).map wordR).length ≤ 100001 := by rw [List.length_map, List.length_take]; omega
        cases hm : (cutS (cutS w ⟨#[58]⟩).2.1 ⟨#[45]⟩).2.2 with
        | true =>
          have hw : wordR w = (atoiN (cutS w ⟨#[58]⟩).1, atoiN (cutS (cutS w ⟨#[58]⟩).2.1 ⟨#[45]⟩).1, atoiN (cutS (cutS w ⟨#[58]⟩).2.1 ⟨#[45]⟩).2.1) := by
            show (_, _, if (cutS (cutS w ⟨#[58]⟩).2.1 ⟨#[45]⟩).2.2 then atoiN (cutS (cutS w ⟨#[58]⟩).2.1 ⟨#[45]⟩).2.1 else atoiN (cutS (cutS w ⟨#[58]⟩).2.1 ⟨#[45]⟩).1) = _
            rw [hm]; rfl
          rw [hw] at hstep
          clear hw
          have lm := hm
          (refine Zm ?_; repeat' (first | exact .intro | ((first | refine B1 (fun h => ?_) fun h => ?_ | refine B2 fun y he he' hy => ?_ | refine B3 fun y he hy => ?_ | refine B4 fun y hy => ?_ | refine B5 fun ck => ?_ | fail) <;> refine Zm ?_)))
          refine All'.mk ?_; rintro (e' : ByteArray) he'
          obtain rfl : w = e' := Option.some.inj (hce.symm.trans he')
          clear he'
          have ck : Hc cutC (w, ⟨#[58]⟩) (Hc cutC ((cutS w ⟨#[58]⟩).2.1, ⟨#[45]⟩) (Hc dnumC (cutS w ⟨#[58]⟩).1 (Hc dnumC (cutS (cutS w ⟨#[58]⟩).2.1 ⟨#[45]⟩).1 (Hc dnumC (cutS (cutS w ⟨#[58]⟩).2.1 ⟨#[45]⟩).1 (Hc dnumC (cutS (cutS w ⟨#[58]⟩).2.1 ⟨#[45]⟩).2.1 True))))) := .mk (.mk (.mk (.mk (.mk (.mk trivial)))))
          (refine Z ?_; repeat' (first | exact .intro | ((first | refine B1 (fun h => ?_) fun h => ?_ | refine B2 fun y he he' hy => ?_ | refine B3 fun y he hy => ?_ | refine B4 fun y hy => ?_ | refine B5 fun ck => ?_ | fail) <;> refine Z ?_)))
          refine Ask.mk (hap _) ?_
          (refine Zm ?_; repeat' (first | exact .intro | ((first | refine B1 (fun h => ?_) fun h => ?_ | refine B2 fun y he he' hy => ?_ | refine B3 fun y he hy => ?_ | refine B4 fun y hy => ?_ | refine B5 fun ck => ?_ | fail) <;> refine Zm ?_)))
          refine Some'.mk (i + 1 : Nat) ?_
          (refine Zn ?_; repeat' (first | exact .intro | ((first | refine B1 (fun h => ?_) fun h => ?_ | refine B2 fun y he he' hy => ?_ | refine B3 fun y he hy => ?_ | refine B4 fun y hy => ?_ | refine B5 fun ck => ?_ | fail) <;> refine Zn ?_)))
          refine AskL.mk ?_ (Ask.mk hpr (Ask.mk hmu trivial))
          (dsimp only [conj]; repeat' apply And.intro) <;> first | rfl | exact congrArg (SV.ro true runT) hstep.symm
        | false =>
          have hw : wordR w = (atoiN (cutS w ⟨#[58]⟩).1, atoiN (cutS (cutS w ⟨#[58]⟩).2.1 ⟨#[45]⟩).1, atoiN (cutS (cutS w ⟨#[58]⟩).2.1 ⟨#[45]⟩).1) := by
            show (_, _, if (cutS (cutS w ⟨#[58]⟩).2.1 ⟨#[45]⟩).2.2 then atoiN (cutS (cutS w ⟨#[58]⟩).2.1 ⟨#[45]⟩).2.1 else atoiN (cutS (cutS w ⟨#[58]⟩).2.1 ⟨#[45]⟩).1) = _
            rw [hm]; rfl
          rw [hw] at hstep
          clear hw
          have lm := hm
          (refine Zm ?_; repeat' (first | exact .intro | ((first | refine B1 (fun h => ?_) fun h => ?_ | refine B2 fun y he he' hy => ?_ | refine B3 fun y he hy => ?_ | refine B4 fun y hy => ?_ | refine B5 fun ck => ?_ | fail) <;> refine Zm ?_)))
          refine All'.mk ?_; rintro (e' : ByteArray) he'
          obtain rfl : w = e' := Option.some.inj (hce.symm.trans he')
          clear he'
          have ck : Hc cutC (w, ⟨#[58]⟩) (Hc cutC ((cutS w ⟨#[58]⟩).2.1, ⟨#[45]⟩) (Hc dnumC (cutS w ⟨#[58]⟩).1 (Hc dnumC (cutS (cutS w ⟨#[58]⟩).2.1 ⟨#[45]⟩).1 (Hc dnumC (cutS (cutS w ⟨#[58]⟩).2.1 ⟨#[45]⟩).1 True)))) := .mk (.mk (.mk (.mk (.mk trivial))))
          (refine Z ?_; repeat' (first | exact .intro | ((first | refine B1 (fun h => ?_) fun h => ?_ | refine B2 fun y he he' hy => ?_ | refine B3 fun y he hy => ?_ | refine B4 fun y hy => ?_ | refine B5 fun ck => ?_ | fail) <;> refine Z ?_)))
          refine Ask.mk (hap _) ?_
          (refine Zm ?_; repeat' (first | exact .intro | ((first | refine B1 (fun h => ?_) fun h => ?_ | refine B2 fun y he he' hy => ?_ | refine B3 fun y he hy => ?_ | refine B4 fun y hy => ?_ | refine B5 fun ck => ?_ | fail) <;> refine Zm ?_)))
          refine Some'.mk (i + 1 : Nat) ?_
          (refine Zn ?_; repeat' (first | exact .intro | ((first | refine B1 (fun h => ?_) fun h => ?_ | refine B2 fun y he he' hy => ?_ | refine B3 fun y he hy => ?_ | refine B4 fun y hy => ?_ | refine B5 fun ck => ?_ | fail) <;> refine Zn ?_)))
          refine AskL.mk ?_ (Ask.mk hpr (Ask.mk hmu trivial))
          (dsimp only [conj]; repeat' apply And.intro) <;> first | rfl | exact congrArg (SV.ro true runT) hstep.symm
end Go.Proofs.YthmbdjhlfieldaaGreatDoor

set_option linter.unusedVariables false
set_option linter.unusedSimpArgs false
set_option maxRecDepth 100000
set_option maxHeartbeats 4000000
namespace Go.Proofs.YthmbdjhlfieldaaGreatDoor
open Go.Eng
variable [DM]
set_option linter.unusedSectionVars false
def joinF (a b : List Run) : List Run := if rightB a && rightB b then joinL a b else []
theorem good_run {d : Dot} (h : goodB d = true) : runP (d.1, d.2, d.2) := by
  have := of_decide_eq_true h
  unfold runP; dsimp only; omega
def cmpF (a b : List Run) : Int := if rightB a && rightB b then (if belowB a b then (if belowB b a then 0 else -1) else (if belowB b a then 1 else 2)) else 2
end Go.Proofs.YthmbdjhlfieldaaGreatDoor

set_option linter.unusedVariables false
set_option linter.unusedSimpArgs false
set_option maxRecDepth 100000
set_option maxHeartbeats 4000000
namespace Go.Proofs.YthmbdjhlfieldaaGreatDoor
open Go.Eng
variable [DM]
set_option linter.unusedSectionVars false
end Go.Proofs.YthmbdjhlfieldaaGreatDoor

set_option linter.unusedVariables false
set_option linter.unusedSimpArgs false
set_option maxRecDepth 100000
set_option maxHeartbeats 4000000
namespace Go.Proofs.YthmbdjhlfieldaaGreatDoor
open Go.Eng
variable [DM]
set_option linter.unusedSectionVars false
end Go.Proofs.YthmbdjhlfieldaaGreatDoor

set_option linter.unusedVariables false
set_option linter.unusedSimpArgs false
set_option maxRecDepth 100000
set_option maxHeartbeats 4000000
namespace Go.Proofs.YthmbdjhlfieldaaGreatDoor
open Go.Eng
variable [DM]
set_option linter.unusedSectionVars false
theorem rdsame_ok : equalCRu.ok Tryz.prog 65 := by
  refine ok_of_vc (An := fun (x : List Run × List Run) => anOf [(0, .loop (equalLRu x))]) (known_nil _) mo Tryz.func65 (by kernel_rfl) (by kernel_rfl) (fun _ _ => trivial) (fun x hs => ?_)
  obtain ⟨a, b⟩ := x
  have hs : a.length ≤ 9223372036854775807 := hs
  by_cases hl : a.length = b.length
  · (refine Z ?_; repeat' (first | exact .intro | ((first | refine B1 (fun h => ?_) fun h => ?_ | refine B2 fun y he he' hy => ?_ | refine B3 fun y he hy => ?_ | refine B4 fun y hy => ?_ | refine B5 fun ck => ?_ | fail) <;> refine Z ?_)))
    refine Some'.mk (0 : Nat) ?_
    (refine Z ?_; repeat' (first | exact .intro | ((first | refine B1 (fun h => ?_) fun h => ?_ | refine B2 fun y he he' hy => ?_ | refine B3 fun y he hy => ?_ | refine B4 fun y hy => ?_ | refine B5 fun ck => ?_ | fail) <;> refine Z ?_)))
    refine Ask.mk ⟨Nat.zero_le _, hl, fun j hj => absurd hj (Nat.not_lt_zero _)⟩ ?_
    refine AllI.mk ?_
    rintro (i : Nat) ⟨h1, h2, h3⟩
    have h1 : i ≤ a.length := h1
    have h2 : a.length = b.length := h2
    have h3 : ∀ j, j < i → a[j]? = b[j]? := h3
    by_cases hi : i = a.length
    · subst hi
      have k1 : decide (a = b) = true := decide_eq_true (List.ext_getElem? fun j => by
        by_cases hj : j < a.length
        · exact h3 j hj
        · rw [List.getElem?_eq_none (by omega), List.getElem?_eq_none (by omega)])
      exact G1
    · obtain ⟨x, hx⟩ : ∃ x, a[i]? = some x := ⟨_, List.getElem?_eq_getElem (by omega)⟩
      obtain ⟨y, hy⟩ : ∃ y, b[i]? = some y := ⟨_, List.getElem?_eq_getElem (by omega)⟩
      (refine Zm ?_; repeat' (first | exact .intro | ((first | refine B1 (fun h => ?_) fun h => ?_ | refine B2 fun y he he' hy => ?_ | refine B3 fun y he hy => ?_ | refine B4 fun y hy => ?_ | refine B5 fun ck => ?_ | fail) <;> refine Zm ?_)))
      refine All'.mk ?_; rintro (x' : Run) hx'
      obtain rfl : x = x' := Option.some.inj (hx.symm.trans hx')
      (refine Zm ?_; repeat' (first | exact .intro | ((first | refine B1 (fun h => ?_) fun h => ?_ | refine B2 fun y he he' hy => ?_ | refine B3 fun y he hy => ?_ | refine B4 fun y hy => ?_ | refine B5 fun ck => ?_ | fail) <;> refine Zm ?_)))
      refine All'.mk ?_; rintro (y' : Run) hy'
      obtain rfl : y = y' := Option.some.inj (hy.symm.trans hy')
      clear hx' hy'
      by_cases hxy : x = y
      · subst hxy
        have k2 : (x.1 == x.1) = true := beq_self_eq_true _
        have k3 : (x.2.1 == x.2.1) = true := beq_self_eq_true _
        have k4 : (x.2.2 == x.2.2) = true := beq_self_eq_true _
        have hk : (x.1 == x.1 && (x.2.1 == x.2.1 && x.2.2 == x.2.2)) = true := by simp
        have lm := hk
        (refine Z ?_; repeat' (first | exact .intro | ((first | refine B1 (fun h => ?_) fun h => ?_ | refine B2 fun y he he' hy => ?_ | refine B3 fun y he hy => ?_ | refine B4 fun y hy => ?_ | refine B5 fun ck => ?_ | fail) <;> refine Z ?_)))
        refine Some'.mk (i + 1 : Nat) ?_
        (refine Z ?_; repeat' (first | exact .intro | ((first | refine B1 (fun h => ?_) fun h => ?_ | refine B2 fun y he he' hy => ?_ | refine B3 fun y he hy => ?_ | refine B4 fun y hy => ?_ | refine B5 fun ck => ?_ | fail) <;> refine Z ?_)))
        refine Ask.mk ⟨by show i + 1 ≤ a.length; omega, h2, fun j hj => ?_⟩ ?_
        · show a[j]? = b[j]?
          by_cases hji : j = i
          · subst hji; rw [hx, hy]
          · exact h3 j (by omega)
        exact G1
      · have hk : (x.1 == y.1 && (x.2.1 == y.2.1 && x.2.2 == y.2.2)) = false := by
          cases hh : (x.1 == y.1 && (x.2.1 == y.2.1 && x.2.2 == y.2.2)) with
          | false => rfl
          | true =>
            simp only [Bool.and_eq_true, beq_iff_eq] at hh
            exact absurd (Prod.ext hh.1 (Prod.ext hh.2.1 hh.2.2)) hxy
        have k1 : decide (a = b) = false := decide_eq_false (fun h => hxy (Option.some.inj (hx.symm.trans (by rw [h]; exact hy))))
        have lm := hk
        exact G1
  · have k1 : decide (a = b) = false := decide_eq_false (fun h => hl (by rw [h]))
    exact G1

theorem knownJ0 : Known Tryz.prog (gOf [(93, equalCRu)]) := known_cons ⟨equal_okRu, Tryz.call93⟩ (known_nil _)
theorem dsame_ok : equalCRu.ok Tryz.prog 48 := by
  refine ok_of_vc (An := fun _ => anOf []) knownJ0 mo Tryz.func48 (by kernel_rfl) (by kernel_rfl) (fun _ _ => trivial) (fun x hs => ?_)
  obtain ⟨a, b⟩ := x
  have hs : a.length ≤ 9223372036854775807 := hs
  have ck : Hc equalCRu (a, b) True := .mk trivial
  exact G1
end Go.Proofs.YthmbdjhlfieldaaGreatDoor

set_option linter.unusedVariables false
set_option linter.unusedSimpArgs false
set_option maxRecDepth 100000
set_option maxHeartbeats 4000000
namespace Go.Proofs.YthmbdjhlfieldaaGreatDoor
open Go.Eng
@[reducible] def itemV (x : Item) : SV := .agg [.v (.string x.1), .v (.int .i64 x.2.1.1), .v (.int .i64 x.2.1.2), .ro true runT x.2.2.1, .v (.bool x.2.2.2.1), .ro true (.int .u8) x.2.2.2.2]
@[reducible] def itemZ (x : Item) : Prop := itemL x ∧ okY x.2.2.2.2
@[reducible] def bequalC : Ctr := {
  X := List Int × List Int
  Y := Unit
  args := fun x => [.ro true (.int .u8) x.1, .ro true (.int .u8) x.2]
  rw := fun _ => []
  side := fun x => okY x.1 ∧ okY x.2
  val := fun _ => ()
  ens := fun _ _ => True
  res := fun x _ => .v (.bool (decide (x.1 = x.2)))
  out := fun _ _ => [] }
theorem strs_dec {a b : List Int} (ha : okY a) (hb : okY b) : ((strOfNums a).toList == (strOfNums b).toList) = decide (a = b) := by
  rw [str_beq, decide_eq_decide]
  constructor
  · intro h
    have := congrArg bytesL h
    rwa [bytes_str ha, bytes_str hb] at this
  · intro h; rw [h]
theorem bequal_ok : bequalC.ok Tryz.prog 49 := by
  refine ok_of_vc (An := fun _ => anOf []) (known_nil _) mo Tryz.func49 (by kernel_rfl) (by kernel_rfl) (fun _ _ => trivial) (fun (x : List Int × List Int) hs => ?_)
  obtain ⟨a, b⟩ := x
  obtain ⟨ha, hb⟩ : okY a ∧ okY b := hs
  have hd := strs_dec ha hb
  have lm := hd
  exact G1
@[reducible] def isameC : Ctr := {
  X := Item × Item
  Y := Unit
  args := fun x => [itemV x.1, itemV x.2]
  rw := fun _ => []
  side := fun x => itemZ x.1 ∧ itemZ x.2
  val := fun _ => ()
  ens := fun _ _ => True
  res := fun x _ => .v (.bool (decide (x.1 = x.2)))
  out := fun _ _ => [] }
theorem knownVs : Known Tryz.prog (gOf [(48, equalCRu), (49, bequalC)]) := known_cons ⟨dsame_ok, Tryz.call48⟩ (known_cons ⟨bequal_ok, Tryz.call49⟩ (known_nil _))
theorem item_dec (k k' : ByteArray) (d d' : Dot) (c c' : List Run) (g g' : Bool) (v v' : List Int) : decide (((k, d, c, g, v) : Item) = (k', d', c', g', v')) = (decide (k = k') && (decide (d = d') && (decide (c = c') && (decide (g = g') && decide (v = v'))))) := by
  rw [Bool.eq_iff_iff]
  simp only [Bool.and_eq_true, decide_eq_true_eq, Prod.mk.injEq]
theorem isame_ok : isameC.ok Tryz.prog 13 := by
  refine ok_of_vc (An := fun _ => anOf []) knownVs mo Tryz.func13 (by kernel_rfl) (by kernel_rfl) (fun _ _ => trivial) (fun (x : Item × Item) hs => ?_)
  obtain ⟨⟨k, ⟨m, n⟩, c, g, v⟩, ⟨k', ⟨m', n'⟩, c', g', v'⟩⟩ := x
  obtain ⟨⟨h1, h2⟩, ⟨h3, h4⟩⟩ := hs
  have h2 : okY v := h2
  have h4 : okY v' := h4
  have h1 : k.size ≤ 9223372036854775807 ∧ c.length ≤ 9223372036854775807 ∧ v.length ≤ 9223372036854775807 := h1
  obtain ⟨z1, z2, z3⟩ := h1
  have hd := item_dec k k' (m, n) (m', n') c c' g g' v v'
  have hk := str_beq k k'
  by_cases e1 : k = k'
  · rw [decide_eq_true e1] at hk hd
    rw [Bool.true_and] at hd
    by_cases e2 : (m, n) = (m', n')
    · have e2' := Prod.mk.inj e2
      have hm : (m == m' && n == n') = true := by rw [e2'.1, e2'.2]; simp
      rw [decide_eq_true e2, Bool.true_and] at hd
      by_cases e3 : c = c'
      · have hc := decide_eq_true e3
        rw [hc, Bool.true_and] at hd
        by_cases e4 : g = g'
        · have hg : (g == g') = true := beq_iff_eq.2 e4
          rw [decide_eq_true e4, Bool.true_and] at hd
          have lm := And.intro hk (And.intro hm (And.intro hc hg))
          have ck : Hc equalCRu (c, c') (Hc bequalC (v, v') True) := .mk (.mk trivial)
          (refine Z ?_; repeat' (first | exact .intro | ((first | refine B1 (fun h => ?_) fun h => ?_ | refine B2 fun y he he' hy => ?_ | refine B3 fun y he hy => ?_ | refine B4 fun y hy => ?_ | refine B5 fun ck => ?_ | fail) <;> refine Z ?_)))
          refine AskL.mk ?_ trivial
          exact hd.symm
        · have hg : (g == g') = false := beq_eq_false_iff_ne.2 e4
          rw [decide_eq_false e4, Bool.false_and] at hd
          have lm := And.intro hk (And.intro hm (And.intro hc hg))
          have ck : Hc equalCRu (c, c') True := .mk trivial
          (refine Z ?_; repeat' (first | exact .intro | ((first | refine B1 (fun h => ?_) fun h => ?_ | refine B2 fun y he he' hy => ?_ | refine B3 fun y he hy => ?_ | refine B4 fun y hy => ?_ | refine B5 fun ck => ?_ | fail) <;> refine Z ?_)))
          refine AskL.mk ?_ trivial
          exact hd.symm
      · have hc := decide_eq_false e3
        rw [hc, Bool.false_and] at hd
        have lm := And.intro hk (And.intro hm hc)
        have ck : Hc equalCRu (c, c') True := .mk trivial
        (refine Z ?_; repeat' (first | exact .intro | ((first | refine B1 (fun h => ?_) fun h => ?_ | refine B2 fun y he he' hy => ?_ | refine B3 fun y he hy => ?_ | refine B4 fun y hy => ?_ | refine B5 fun ck => ?_ | fail) <;> refine Z ?_)))
        refine AskL.mk ?_ trivial
        exact hd.symm
    · have hm : (m == m' && n == n') = false := by
        cases h : (m == m' && n == n') with
        | false => rfl
        | true =>
          simp only [Bool.and_eq_true, beq_iff_eq] at h
          exact absurd (Prod.ext h.1 h.2) e2
      rw [decide_eq_false e2, Bool.false_and] at hd
      have lm := And.intro hk hm
      (refine Z ?_; repeat' (first | exact .intro | ((first | refine B1 (fun h => ?_) fun h => ?_ | refine B2 fun y he he' hy => ?_ | refine B3 fun y he hy => ?_ | refine B4 fun y hy => ?_ | refine B5 fun ck => ?_ | fail) <;> refine Z ?_)))
      refine AskL.mk ?_ trivial
      exact hd.symm
  · rw [decide_eq_false e1] at hk hd
    rw [Bool.false_and] at hd
    have lm := hk
    exact G1
theorem knownRvs : Known Tryz.prog (gOf [(65, equalCRu)]) := known_cons ⟨rdsame_ok, Tryz.call65⟩ (known_nil _)
theorem risame_ok : isameC.ok Tryz.prog 23 := by
  refine ok_of_vc (An := fun _ => anOf []) knownRvs mo Tryz.func23 (by kernel_rfl) (by kernel_rfl) (fun _ _ => trivial) (fun (x : Item × Item) hs => ?_)
  obtain ⟨⟨k, ⟨m, n⟩, c, g, v⟩, ⟨k', ⟨m', n'⟩, c', g', v'⟩⟩ := x
  obtain ⟨⟨h1, h2⟩, ⟨h3, h4⟩⟩ := hs
  have h2 : okY v := h2
  have h4 : okY v' := h4
  have h1 : k.size ≤ 9223372036854775807 ∧ c.length ≤ 9223372036854775807 ∧ v.length ≤ 9223372036854775807 := h1
  obtain ⟨z1, z2, z3⟩ := h1
  have hd := item_dec k k' (m, n) (m', n') c c' g g' v v'
  have hk := str_beq k k'
  have hvv := strs_dec h2 h4
  by_cases e1 : k = k'
  · rw [decide_eq_true e1] at hk hd
    rw [Bool.true_and] at hd
    by_cases e2 : (m, n) = (m', n')
    · have e2' := Prod.mk.inj e2
      have hm : (m == m' && n == n') = true := by rw [e2'.1, e2'.2]; simp
      rw [decide_eq_true e2, Bool.true_and] at hd
      by_cases e3 : c = c'
      · have hc := decide_eq_true e3
        rw [hc, Bool.true_and] at hd
        by_cases e4 : g = g'
        · have hg : (g == g') = true := beq_iff_eq.2 e4
          rw [decide_eq_true e4, Bool.true_and] at hd
          have lm := And.intro hk (And.intro hm (And.intro hc (And.intro hg hvv)))
          have ck : Hc equalCRu (c, c') True := .mk trivial
          (refine Z ?_; repeat' (first | exact .intro | ((first | refine B1 (fun h => ?_) fun h => ?_ | refine B2 fun y he he' hy => ?_ | refine B3 fun y he hy => ?_ | refine B4 fun y hy => ?_ | refine B5 fun ck => ?_ | fail) <;> refine Z ?_)))
          refine AskL.mk ?_ trivial
          dsimp only [conj]
          rw [hvv]
          exact hd.symm
        · have hg : (g == g') = false := beq_eq_false_iff_ne.2 e4
          rw [decide_eq_false e4, Bool.false_and] at hd
          have lm := And.intro hk (And.intro hm (And.intro hc hg))
          have ck : Hc equalCRu (c, c') True := .mk trivial
          (refine Z ?_; repeat' (first | exact .intro | ((first | refine B1 (fun h => ?_) fun h => ?_ | refine B2 fun y he he' hy => ?_ | refine B3 fun y he hy => ?_ | refine B4 fun y hy => ?_ | refine B5 fun ck => ?_ | fail) <;> refine Z ?_)))
          refine AskL.mk ?_ trivial
          exact hd.symm
      · have hc := decide_eq_false e3
        rw [hc, Bool.false_and] at hd
        have lm := And.intro hk (And.intro hm hc)
        have ck : Hc equalCRu (c, c') True := .mk trivial
        (refine Z ?_; repeat' (first | exact .intro | ((first | refine B1 (fun h => ?_) fun h => ?_ | refine B2 fun y he he' hy => ?_ | refine B3 fun y he hy => ?_ | refine B4 fun y hy => ?_ | refine B5 fun ck => ?_ | fail) <;> refine Z ?_)))
        refine AskL.mk ?_ trivial
        exact hd.symm
    · have hm : (m == m' && n == n') = false := by
        cases h : (m == m' && n == n') with
        | false => rfl
        | true =>
          simp only [Bool.and_eq_true, beq_iff_eq] at h
          exact absurd (Prod.ext h.1 h.2) e2
      rw [decide_eq_false e2, Bool.false_and] at hd
      have lm := And.intro hk hm
      (refine Z ?_; repeat' (first | exact .intro | ((first | refine B1 (fun h => ?_) fun h => ?_ | refine B2 fun y he he' hy => ?_ | refine B3 fun y he hy => ?_ | refine B4 fun y hy => ?_ | refine B5 fun ck => ?_ | fail) <;> refine Z ?_)))
      refine AskL.mk ?_ trivial
      exact hd.symm
  · rw [decide_eq_false e1] at hk hd
    rw [Bool.false_and] at hd
    have lm := hk
    exact G1
end Go.Proofs.YthmbdjhlfieldaaGreatDoor

set_option linter.unusedVariables false
set_option linter.unusedSimpArgs false
set_option maxRecDepth 100000
namespace Go.Proofs.YthmbdjhlfieldaaGreatDoor
open Go.Eng
variable [DM]
set_option linter.unusedSectionVars false
def bor (a b : Int) : Int := IntKind.u64.wrap ((BitVec.ofInt IntKind.u64.bits a ||| BitVec.ofInt IntKind.u64.bits b).toNat : Nat)
def bxor (a b : Int) : Int := IntKind.u64.wrap ((BitVec.ofInt IntKind.u64.bits a ^^^ BitVec.ofInt IntKind.u64.bits b).toNat : Nat)
def upV (x n : Int) : Int := bor (IntKind.u64.wrap (x * 2 ^ min n.toNat IntKind.u64.bits)) (x.fdiv (2 ^ min (64 - n).toNat IntKind.u64.bits))
@[reducible] def upC : Ctr := {
  X := Int × Int
  Y := Int
  args := fun x => [.v (.int .u64 x.1), .v (.int .i64 x.2)]
  rw := fun _ => []
  side := fun x => 0 ≤ x.2 ∧ x.2 ≤ 64
  val := fun x => upV x.1 x.2
  ens := fun _ _ => True
  res := fun _ y => .v (.int .u64 y)
  out := fun _ _ => [] }
theorem up_ok : upC.ok Tryz.prog 139 := by
  refine ok_of_vc (An := fun _ => anOf []) (known_nil _) mo Tryz.func139 (by kernel_rfl) (by kernel_rfl) (fun _ _ => trivial) (fun x hs => ?_)
  obtain ⟨x, n⟩ := x
  have hs : 0 ≤ n ∧ n ≤ 64 := hs
  (refine Z ?_; repeat' (first | exact .intro | ((first | refine B1 (fun h => ?_) fun h => ?_ | refine B2 fun y he he' hy => ?_ | refine B3 fun y he hy => ?_ | refine B4 fun y hy => ?_ | refine B5 fun ck => ?_ | fail) <;> refine Z ?_)))
  refine Ar.wrap ?_
  exact G1

structure V4 where
  a : Int
  b : Int
  c : Int
  d : Int
@[reducible] def v4L (v : V4) : List SV := [.v (.int .u64 v.a), .v (.int .u64 v.b), .v (.int .u64 v.c), .v (.int .u64 v.d)]
def roundV (v : V4) : V4 :=
  let a1 := IntKind.u64.wrap (v.a + v.b)
  let b1 := bxor (upV v.b 13) a1
  let a2 := upV a1 32
  let c1 := IntKind.u64.wrap (v.c + v.d)
  let d1 := bxor (upV v.d 16) c1
  let a3 := IntKind.u64.wrap (a2 + d1)
  let d2 := bxor (upV d1 21) a3
  let c2 := IntKind.u64.wrap (c1 + b1)
  let b2 := bxor (upV b1 17) c2
  let c3 := upV c2 32
  ⟨a3, b2, c3, d2⟩
@[reducible] def roundC : Ctr := {
  X := V4
  Y := V4
  args := fun v => [.agg (v4L v)]
  rw := fun _ => []
  side := fun _ => True
  val := fun v => roundV v
  ens := fun _ _ => True
  res := fun _ y => .agg (v4L y)
  out := fun _ _ => [] }
theorem knownS0 : Known Tryz.prog (gOf [(139, upC)]) := known_cons ⟨up_ok, Tryz.call139⟩ (known_nil _)
theorem round_ok : roundC.ok Tryz.prog 123 := by
  refine ok_of_vc (An := fun _ => anOf []) knownS0 mo Tryz.func123 (by kernel_rfl) (by kernel_rfl) (fun _ _ => trivial) (fun v hs => ?_)
  obtain ⟨a, b, c, d⟩ := v
  (refine Z ?_; repeat' (first | exact .intro | ((first | refine B1 (fun h => ?_) fun h => ?_ | refine B2 fun y he he' hy => ?_ | refine B3 fun y he hy => ?_ | refine B4 fun y hy => ?_ | refine B5 fun ck => ?_ | fail) <;> refine Z ?_)))
  refine Ar.wrap ?_
  generalize ha1 : IntKind.u64.wrap (_ + _) = a1
  have ck : Hc upC (b, 13) True := .mk trivial
  (refine Z ?_; repeat' (first | exact .intro | ((first | refine B1 (fun h => ?_) fun h => ?_ | refine B2 fun y he he' hy => ?_ | refine B3 fun y he hy => ?_ | refine B4 fun y hy => ?_ | refine B5 fun ck => ?_ | fail) <;> refine Z ?_)))
  subst he
  have ck : Hc upC (a1, 32) True := .mk trivial
  (refine Z ?_; repeat' (first | exact .intro | ((first | refine B1 (fun h => ?_) fun h => ?_ | refine B2 fun y he he' hy => ?_ | refine B3 fun y he hy => ?_ | refine B4 fun y hy => ?_ | refine B5 fun ck => ?_ | fail) <;> refine Z ?_)))
  subst he
  (refine Z ?_; repeat' (first | exact .intro | ((first | refine B1 (fun h => ?_) fun h => ?_ | refine B2 fun y he he' hy => ?_ | refine B3 fun y he hy => ?_ | refine B4 fun y hy => ?_ | refine B5 fun ck => ?_ | fail) <;> refine Z ?_)))
  refine Ar.wrap ?_
  generalize hc1 : IntKind.u64.wrap (_ + _) = c1
  have ck : Hc upC (d, 16) True := .mk trivial
  (refine Z ?_; repeat' (first | exact .intro | ((first | refine B1 (fun h => ?_) fun h => ?_ | refine B2 fun y he he' hy => ?_ | refine B3 fun y he hy => ?_ | refine B4 fun y hy => ?_ | refine B5 fun ck => ?_ | fail) <;> refine Z ?_)))
  subst he
  (refine Z ?_; repeat' (first | exact .intro | ((first | refine B1 (fun h => ?_) fun h => ?_ | refine B2 fun y he he' hy => ?_ | refine B3 fun y he hy => ?_ | refine B4 fun y hy => ?_ | refine B5 fun ck => ?_ | fail) <;> refine Z ?_)))
  refine Ar.wrap ?_
  generalize ha3 : IntKind.u64.wrap (_ + _) = a3
  have ck : Hc upC (bxor (upV d 16) c1, 21) True := .mk trivial
  (refine Z ?_; repeat' (first | exact .intro | ((first | refine B1 (fun h => ?_) fun h => ?_ | refine B2 fun y he he' hy => ?_ | refine B3 fun y he hy => ?_ | refine B4 fun y hy => ?_ | refine B5 fun ck => ?_ | fail) <;> refine Z ?_)))
  subst he
  (refine Z ?_; repeat' (first | exact .intro | ((first | refine B1 (fun h => ?_) fun h => ?_ | refine B2 fun y he he' hy => ?_ | refine B3 fun y he hy => ?_ | refine B4 fun y hy => ?_ | refine B5 fun ck => ?_ | fail) <;> refine Z ?_)))
  refine Ar.wrap ?_
  generalize hc2 : IntKind.u64.wrap (_ + _) = c2
  have ck : Hc upC (bxor (upV b 13) a1, 17) True := .mk trivial
  (refine Z ?_; repeat' (first | exact .intro | ((first | refine B1 (fun h => ?_) fun h => ?_ | refine B2 fun y he he' hy => ?_ | refine B3 fun y he hy => ?_ | refine B4 fun y hy => ?_ | refine B5 fun ck => ?_ | fail) <;> refine Z ?_)))
  subst he
  have ck : Hc upC (c2, 32) True := .mk trivial
  (refine Z ?_; repeat' (first | exact .intro | ((first | refine B1 (fun h => ?_) fun h => ?_ | refine B2 fun y he he' hy => ?_ | refine B3 fun y he hy => ?_ | refine B4 fun y hy => ?_ | refine B5 fun ck => ?_ | fail) <;> refine Z ?_)))
  subst he
  (refine Z ?_; repeat' (first | exact .intro | ((first | refine B1 (fun h => ?_) fun h => ?_ | refine B2 fun y he he' hy => ?_ | refine B3 fun y he hy => ?_ | refine B4 fun y hy => ?_ | refine B5 fun ck => ?_ | fail) <;> refine Z ?_)))
  subst hc2 ha3 hc1 ha1
  refine AskL.mk ?_ trivial
  simp only [conj]
  exact ⟨⟨⟨rfl, rfl⟩, rfl⟩, rfl⟩

@[reducible] def seedC : Ctr := {
  X := Int
  Y := Unit
  args := fun n => [.v (.int .i64 n)]
  rw := fun _ => []
  side := fun n => 0 ≤ n ∧ n ≤ 1000
  val := fun _ => ()
  ens := fun _ _ => True
  res := fun n _ => .agg [.v (.int .u64 n), .v (.int .u64 (18446744073709551615 - n))]
  out := fun _ _ => [] }
theorem seed_ok : seedC.ok Tryz.prog 103 := by
  refine ok_of_vc (An := fun _ => anOf []) (known_nil _) mo Tryz.func103 (by kernel_rfl) (by kernel_rfl) (fun _ _ => trivial) (fun (n : Int) hs => ?_)
  have hs : 0 ≤ n ∧ n ≤ 1000 := hs
  have hw : IntKind.u64.wrap n = n := wrap_u64 (by omega) (by omega)
  exact G1

/-- A number in so many bytes, the greatest ahead. -/
def eightL : Nat → Nat → List Int
  | 0, _ => []
  | k + 1, u => eightL k (u / 256) ++ [((u % 256 : Nat) : Int)]
theorem eightL_len : ∀ k u, (eightL k u).length = k
  | 0, _ => rfl
  | k + 1, u => by simp [eightL, eightL_len k]
@[reducible] def eightC : Ctr := {
  X := Nat
  Y := Unit
  args := fun u => [.v (.int .u64 (u : Nat))]
  rw := fun _ => []
  side := fun u => u < 18446744073709551616
  val := fun _ => ()
  ens := fun _ _ => True
  res := fun u _ => .v (.string (strOfNums (eightL 8 u)))
  out := fun _ _ => [] }
structure EightS where
  i : Nat
  u : Nat
  l : List Int
@[reducible] def eightLp (u : Nat) : LA := {
  X := EightS
  pre := fun s => s.i ≤ 8 ∧ s.u ≤ u ∧ eightL 8 u = eightL (8 - s.i) s.u ++ s.l ∧ s.l.length = s.i
  mu := fun s => 8 - s.i
  T := fun s => [(0, .v (.int .u64 (s.u : Nat))), (3, .v (.string (strOfNums s.l))), (4, .v (.int .i64 s.i))]
  M := fun _ => [] }
theorem eight_ok : eightC.ok Tryz.prog 101 := by
  refine ok_of_vc (An := fun (u : Nat) => anOf [(0, .loop (eightLp u))]) (known_nil _) mo Tryz.func101 (by kernel_rfl) (by kernel_rfl) (fun _ _ => trivial) (fun (u : Nat) hs => ?_)
  have hs : u < 18446744073709551616 := hs
  (refine Z ?_; repeat' (first | exact .intro | ((first | refine B1 (fun h => ?_) fun h => ?_ | refine B2 fun y he he' hy => ?_ | refine B3 fun y he hy => ?_ | refine B4 fun y hy => ?_ | refine B5 fun ck => ?_ | fail) <;> refine Z ?_)))
  refine Some'.mk ⟨0, u, []⟩ ?_
  (refine Z ?_; repeat' (first | exact .intro | ((first | refine B1 (fun h => ?_) fun h => ?_ | refine B2 fun y he he' hy => ?_ | refine B3 fun y he hy => ?_ | refine B4 fun y hy => ?_ | refine B5 fun ck => ?_ | fail) <;> refine Z ?_)))
  refine Ask.mk ⟨Nat.zero_le _, Nat.le_refl _, (List.append_nil _).symm, rfl⟩ ?_
  (refine Z ?_; repeat' (first | exact .intro | ((first | refine B1 (fun h => ?_) fun h => ?_ | refine B2 fun y he he' hy => ?_ | refine B3 fun y he hy => ?_ | refine B4 fun y hy => ?_ | refine B5 fun ck => ?_ | fail) <;> refine Z ?_)))
  refine AllI.mk ?_
  rintro ⟨i, v, l⟩ ⟨h1, h2, h3, h4⟩
  dsimp only at h1 h2 h3 h4
  have hm : ((v : Nat) : Int).tmod 256 = ((v % 256 : Nat) : Int) := tmod_nat v 256
  have hd : ((v : Nat) : Int).tdiv 256 = ((v / 256 : Nat) : Int) := tdiv_nat v 256
  have hw : IntKind.u64.wrap ((v / 256 : Nat) : Int) = ((v / 256 : Nat) : Int) := wrap_u64 (by omega) (by omega)
  have hw8 : IntKind.u8.wrap ((v % 256 : Nat) : Int) = ((v % 256 : Nat) : Int) := wrap_u8 (by omega) (by omega)
  have hcat := str_cat [((v % 256 : Nat) : Int)] l
  rcases Nat.lt_or_ge i 8 with hlt | hge
  · have hst : eightL 8 u = eightL (8 - (i + 1)) (v / 256) ++ ([((v % 256 : Nat) : Int)] ++ l) := by
      rw [h3, show 8 - i = (8 - (i + 1)) + 1 by omega, eightL, List.append_assoc]
    clear h3
    ((repeat' ((conv => whnf) <;> first | exact True.intro | (guard_target =~ Fork _ _ _; first | refine F1 ?_ | refine F2 ?_ | (refine Fork.pos ?_ ?_; · (simp only [str_size, List.length_singleton, Bool.not_true, Bool.not_false, decide_eq_true_eq, beq_iff_eq, bne_iff_ne, ne_eq] <;> omega)) | (refine Fork.neg ?_ ?_; · (simp only [str_size, List.length_singleton, Bool.not_true, Bool.not_false, decide_eq_false_iff_not, beq_eq_false_iff_ne] <;> omega)) | refine F3 (fun h => ?_) fun h => ?_) | (guard_target =~ Ar _ _ _; first | refine A1 ?_ | refine A2 ?_ | refine A3 ?_ | (refine Ar.fit (wrap_i64 ?_ ?_) ?_; · ((try dsimp only) <;> simp only [str_size, List.length_singleton] <;> omega); · ((try dsimp only) <;> simp only [str_size, List.length_singleton] <;> omega)) | (refine Ar.fit (wrap_u64 ?_ ?_) ?_; · ((try dsimp only) <;> simp only [str_size, List.length_singleton] <;> omega); · ((try dsimp only) <;> simp only [str_size, List.length_singleton] <;> omega))) | (guard_target =~ AskL _ _; first | (refine AskL.mk ?_ ?_; · ((simp only [conj]; repeat' apply And.intro) <;> first | rfl | trivial | omega | (simp only [str_size, List.length_singleton]; done) | (simp only [str_size, List.length_singleton] <;> omega) | (simp only [str_size, List.length_singleton]; refine Bool.eq_iff_iff.2 ?_; simp only [decide_eq_true_eq, Bool.false_eq_true, true_iff, iff_true, false_iff, iff_false, eq_self]; omega) | (simp only [*, str_size, List.length_singleton]; done))) | refine L1 ?_) | (guard_target =~ Go.Eng.Ask _ _; first | refine K1 ?_ | (refine Ask.mk ?_ ?_; · ((try dsimp only) <;> simp only [str_size, List.length_singleton] <;> omega))) | (guard_target =~ CallP _ _ _ _ _; first | refine H1 ck fun ck => ?_ | refine H2 ck fun ck => ?_) | (guard_target =~ All' _ _; first | (refine Y2 fun y he he' hy => ?_; (try dsimp only at he he' hy)) | (refine Y1 fun y he hy => ?_; (try with_reducible conv at he => (rhs; whnf)); (try dsimp only at he hy)) | (refine All'.mk ?_; intro y hy)) | refine F4 (fun h => ?_) fun h => ?_ | refine R1 ?_ | refine Q1 ?_ | fail)); all_goals (conv => whnf))
    refine Some'.mk ⟨i + 1, v / 256, [((v % 256 : Nat) : Int)] ++ l⟩ ?_
    ((repeat' ((conv => whnf) <;> first | exact True.intro | (guard_target =~ Fork _ _ _; first | refine F1 ?_ | refine F2 ?_ | (refine Fork.pos ?_ ?_; · (simp only [str_size, List.length_singleton, Bool.not_true, Bool.not_false, decide_eq_true_eq, beq_iff_eq, bne_iff_ne, ne_eq] <;> omega)) | (refine Fork.neg ?_ ?_; · (simp only [str_size, List.length_singleton, Bool.not_true, Bool.not_false, decide_eq_false_iff_not, beq_eq_false_iff_ne] <;> omega)) | refine F3 (fun h => ?_) fun h => ?_) | (guard_target =~ Ar _ _ _; first | refine A1 ?_ | refine A2 ?_ | refine A3 ?_ | (refine Ar.fit (wrap_i64 ?_ ?_) ?_; · ((try dsimp only) <;> simp only [str_size, List.length_singleton] <;> omega); · ((try dsimp only) <;> simp only [str_size, List.length_singleton] <;> omega)) | (refine Ar.fit (wrap_u64 ?_ ?_) ?_; · ((try dsimp only) <;> simp only [str_size, List.length_singleton] <;> omega); · ((try dsimp only) <;> simp only [str_size, List.length_singleton] <;> omega))) | (guard_target =~ AskL _ _; first | (refine AskL.mk ?_ ?_; · ((simp only [conj]; repeat' apply And.intro) <;> first | rfl | trivial | omega | (simp only [str_size, List.length_singleton]; done) | (simp only [str_size, List.length_singleton] <;> omega) | (simp only [str_size, List.length_singleton]; refine Bool.eq_iff_iff.2 ?_; simp only [decide_eq_true_eq, Bool.false_eq_true, true_iff, iff_true, false_iff, iff_false, eq_self]; omega) | (simp only [*, str_size, List.length_singleton]; done))) | refine L1 ?_) | (guard_target =~ Go.Eng.Ask _ _; first | refine K1 ?_ | (refine Ask.mk ?_ ?_; · ((try dsimp only) <;> simp only [str_size, List.length_singleton] <;> omega))) | (guard_target =~ CallP _ _ _ _ _; first | refine H1 ck fun ck => ?_ | refine H2 ck fun ck => ?_) | (guard_target =~ All' _ _; first | (refine Y2 fun y he he' hy => ?_; (try dsimp only at he he' hy)) | (refine Y1 fun y he hy => ?_; (try with_reducible conv at he => (rhs; whnf)); (try dsimp only at he hy)) | (refine All'.mk ?_; intro y hy)) | refine F4 (fun h => ?_) fun h => ?_ | refine R1 ?_ | refine Q1 ?_ | fail)); all_goals (conv => whnf))
    refine Ask.mk ⟨hlt, by dsimp only; omega, hst, by simp [h4]⟩ ?_
    ((repeat' ((conv => whnf) <;> first | exact True.intro | (guard_target =~ Fork _ _ _; first | refine F1 ?_ | refine F2 ?_ | (refine Fork.pos ?_ ?_; · (simp only [str_size, List.length_singleton, Bool.not_true, Bool.not_false, decide_eq_true_eq, beq_iff_eq, bne_iff_ne, ne_eq] <;> omega)) | (refine Fork.neg ?_ ?_; · (simp only [str_size, List.length_singleton, Bool.not_true, Bool.not_false, decide_eq_false_iff_not, beq_eq_false_iff_ne] <;> omega)) | refine F3 (fun h => ?_) fun h => ?_) | (guard_target =~ Ar _ _ _; first | refine A1 ?_ | refine A2 ?_ | refine A3 ?_ | (refine Ar.fit (wrap_i64 ?_ ?_) ?_; · ((try dsimp only) <;> simp only [str_size, List.length_singleton] <;> omega); · ((try dsimp only) <;> simp only [str_size, List.length_singleton] <;> omega)) | (refine Ar.fit (wrap_u64 ?_ ?_) ?_; · ((try dsimp only) <;> simp only [str_size, List.length_singleton] <;> omega); · ((try dsimp only) <;> simp only [str_size, List.length_singleton] <;> omega))) | (guard_target =~ AskL _ _; first | (refine AskL.mk ?_ ?_; · ((simp only [conj]; repeat' apply And.intro) <;> first | rfl | trivial | omega | (simp only [str_size, List.length_singleton]; done) | (simp only [str_size, List.length_singleton] <;> omega) | (simp only [str_size, List.length_singleton]; refine Bool.eq_iff_iff.2 ?_; simp only [decide_eq_true_eq, Bool.false_eq_true, true_iff, iff_true, false_iff, iff_false, eq_self]; omega) | (simp only [*, str_size, List.length_singleton]; done))) | refine L1 ?_) | (guard_target =~ Go.Eng.Ask _ _; first | refine K1 ?_ | (refine Ask.mk ?_ ?_; · ((try dsimp only) <;> simp only [str_size, List.length_singleton] <;> omega))) | (guard_target =~ CallP _ _ _ _ _; first | refine H1 ck fun ck => ?_ | refine H2 ck fun ck => ?_) | (guard_target =~ All' _ _; first | (refine Y2 fun y he he' hy => ?_; (try dsimp only at he he' hy)) | (refine Y1 fun y he hy => ?_; (try with_reducible conv at he => (rhs; whnf)); (try dsimp only at he hy)) | (refine All'.mk ?_; intro y hy)) | refine F4 (fun h => ?_) fun h => ?_ | refine R1 ?_ | refine Q1 ?_ | fail)); all_goals (conv => whnf))
  · obtain rfl : i = 8 := by omega
    have hz : eightL 8 u = l := by rw [h3]; rfl
    have lm := hz
    exact G1
end Go.Proofs.YthmbdjhlfieldaaGreatDoor

set_option linter.unusedVariables false
set_option linter.unusedSimpArgs false
set_option maxRecDepth 100000
namespace Go.Proofs.YthmbdjhlfieldaaGreatDoor
open Go.Eng
variable [DM]
set_option linter.unusedSectionVars false
def padN (s : ByteArray) : Nat := (15 - s.size % 8) % 8
def padS (s : ByteArray) (j : Nat) : ByteArray := s ++ strOfNums (List.replicate j 0)
theorem padS_size (s : ByteArray) (j : Nat) : (padS s j).size = s.size + j := by
  unfold padS; rw [ByteArray.size_append, str_size, List.length_replicate]
theorem padS_succ (s : ByteArray) (j : Nat) : padS s (j + 1) = padS s j ++ strOfNums [0] := by
  unfold padS
  rw [List.replicate_succ', ← str_cat, ByteArray.append_assoc]
def hashIn (s : ByteArray) : ByteArray := padS s (padN s) ++ strOfNums [((s.size % 256 : Nat) : Int)]
theorem hashIn_size (s : ByteArray) : (hashIn s).size % 8 = 0 ∧ (hashIn s).size ≤ s.size + 8 := by
  unfold hashIn
  rw [ByteArray.size_append, str_size, padS_size]
  simp only [padN, List.length_singleton]
  omega

def wordF (s : ByteArray) : Nat → Int → Int
  | 0, w => w
  | i + 1, w => wordF s i (IntKind.u64.wrap (IntKind.u64.wrap (w * 256) + IntKind.u64.wrap (byteAt s i)))
def stepV (v : V4) (w : Int) : V4 :=
  let v2 := roundV (roundV ⟨v.a, v.b, v.c, bxor v.d w⟩)
  ⟨bxor v2.a w, v2.b, v2.c, v2.d⟩
theorem cut_size (s : ByteArray) : (s.extract 8 s.size).size = s.size - 8 := by rw [ByteArray.size_extract]; omega
def hashF (v : V4) (s : ByteArray) : V4 := if h : 8 ≤ s.size then hashF (stepV v (wordF s 8 0)) (s.extract 8 s.size) else v
termination_by s.size
decreasing_by rw [cut_size]; omega
theorem hashF_step {v : V4} {s : ByteArray} (h : 8 ≤ s.size) : hashF v s = hashF (stepV v (wordF s 8 0)) (s.extract 8 s.size) := by rw [hashF, dif_pos h]
theorem hashF_end {v : V4} {s : ByteArray} (h : s.size = 0) : hashF v s = v := by rw [hashF, dif_neg (by omega)]
def hashE (v : V4) : Int :=
  let v := roundV (roundV (roundV (roundV ⟨v.a, v.b, bxor v.c 255, v.d⟩)))
  bxor (bxor (bxor v.a v.b) v.c) v.d
structure HashX where
  a : Int
  b : Int
  s : ByteArray
def hash0 (x : HashX) : V4 := hashF ⟨bxor x.a 8317987319222330741, bxor x.b 7237128888997146477, bxor x.a 7816392313619706465, bxor x.b 8387220255154660723⟩ (hashIn x.s)
def hashV (x : HashX) : Int := hashE (hash0 x)
@[reducible] def hashC : Ctr := {
  X := HashX
  Y := Int
  args := fun x => [.agg [.v (.int .u64 x.a), .v (.int .u64 x.b)], .v (.string x.s)]
  rw := fun _ => []
  side := fun x => x.s.size ≤ 1000000000000
  val := fun x => hashV x
  ens := fun _ _ => True
  res := fun _ y => .v (.int .u64 y)
  out := fun _ _ => [] }
@[reducible] def hPad (x : HashX) : LA := {
  X := Nat
  pre := fun j => j ≤ padN x.s
  mu := fun j => padN x.s - j
  T := fun j => [(1, .v (.string (padS x.s j))), (5, .ptr 0 0), (6, .v (.int .i64 ((x.s.size % 256 : Nat) : Int)))]
  M := fun _ => [(0, .cells 143 (v4L ⟨bxor x.a 8317987319222330741, bxor x.b 7237128888997146477, bxor x.a 7816392313619706465, bxor x.b 8387220255154660723⟩))] }
structure HOut where
  v : V4
  s : ByteArray
@[reducible] def hOut (x : HashX) : LA := {
  X := HOut
  pre := fun t => hash0 x = hashF t.v t.s ∧ t.s.size % 8 = 0 ∧ t.s.size ≤ 1000000000008
  mu := fun t => t.s.size
  T := fun t => [(1, .v (.string t.s)), (5, .ptr 0 0)]
  M := fun t => [(0, .cells 143 (v4L t.v))] }
structure HIn where
  v : V4
  s : ByteArray
  w : Int
  i : Nat
@[reducible] def hIn (x : HashX) (m : Nat) : LA := {
  X := HIn
  pre := fun t => hash0 x = hashF t.v t.s ∧ t.s.size % 8 = 0 ∧ t.s.size ≤ 1000000000008 ∧ 8 ≤ t.s.size ∧ t.s.size = m ∧ t.i ≤ 8 ∧ wordF t.s 8 0 = wordF t.s t.i t.w
  mu := fun t => t.i
  T := fun t => [(1, .v (.string t.s)), (5, .ptr 0 0), (7, .v (.int .u64 t.w)), (8, .v (.int .i64 ((t.i : Int) - 1)))]
  M := fun t => [(0, .cells 143 (v4L t.v))] }
theorem knownS1 : Known Tryz.prog (gOf [(123, roundC)]) := known_cons ⟨round_ok, Tryz.call123⟩ (known_nil _)
theorem hash_ok : hashC.ok Tryz.prog 102 := by
  refine ok_of_vc (An := fun (x : HashX) => anOfM fun ms => [(0, .loop (hPad x)), (2, .loop (hOut x)), (4, .loop (hIn x (ms.headD 0)))]) knownS1 mo Tryz.func102 (by kernel_rfl) (by kernel_rfl) (fun _ _ => trivial) (fun x hs => ?_)
  obtain ⟨A, B, s⟩ := x
  have hs : s.size ≤ 1000000000000 := hs
  have hn : ((s.size : Nat) : Int).tmod 256 = ((s.size % 256 : Nat) : Int) := tmod_nat s.size 256
  have hpz : padS s 0 = s := by
    unfold padS; rw [List.replicate_zero]
    apply ByteArray.ext
    simp [strOfNums]
  have hpn : padN s = (15 - s.size % 8) % 8 := rfl
  have h0 : (⟨#[0]⟩ : ByteArray) = strOfNums [0] := rfl
  have lm := And.intro hpz hn
  (refine Z ?_; repeat' (first | exact .intro | ((first | refine B1 (fun h => ?_) fun h => ?_ | refine B2 fun y he he' hy => ?_ | refine B3 fun y he hy => ?_ | refine B4 fun y hy => ?_ | refine B5 fun ck => ?_ | fail) <;> refine Z ?_)))
  refine Some'.mk 0 ?_
  (refine Z ?_; repeat' (first | exact .intro | ((first | refine B1 (fun h => ?_) fun h => ?_ | refine B2 fun y he he' hy => ?_ | refine B3 fun y he hy => ?_ | refine B4 fun y hy => ?_ | refine B5 fun ck => ?_ | fail) <;> refine Z ?_)))
  refine AllI.mk ?_
  rintro (j : Nat) h1
  dsimp only at h1
  have hsz := padS_size s j
  have hm : (((padS s j).size : Nat) : Int).tmod 8 = (((s.size + j) % 8 : Nat) : Int) := by rw [hsz]; exact tmod_nat (s.size + j) 8
  clear hpz
  rcases Nat.lt_or_ge j (padN s) with hlt | hge
  · have hne : (s.size + j) % 8 ≠ 7 := by rw [hpn] at hlt; omega
    have hst := padS_succ s j
    have hjb : j ≤ 8 := by rw [hpn] at h1; omega
    ((repeat' ((conv => whnf) <;> first | exact True.intro | (guard_target =~ Fork _ _ _; first | refine F1 ?_ | refine F2 ?_ | (refine Fork.pos ?_ ?_; · (simp only [hm, h0, str_size, List.length_singleton, Bool.not_true, Bool.not_false, decide_eq_true_eq, beq_iff_eq, bne_iff_ne, ne_eq] <;> omega)) | (refine Fork.neg ?_ ?_; · (simp only [hm, h0, str_size, List.length_singleton, Bool.not_true, Bool.not_false, decide_eq_false_iff_not, beq_eq_false_iff_ne] <;> omega)) | refine F3 (fun h => ?_) fun h => ?_) | (guard_target =~ Ar _ _ _; first | refine A1 ?_ | refine A2 ?_ | refine A3 ?_ | (refine Ar.fit (wrap_i64 ?_ ?_) ?_; · ((try dsimp only) <;> simp only [hm, h0, str_size, List.length_singleton] <;> omega); · ((try dsimp only) <;> simp only [hm, h0, str_size, List.length_singleton] <;> omega)) | (refine Ar.fit (wrap_u64 ?_ ?_) ?_; · ((try dsimp only) <;> simp only [hm, h0, str_size, List.length_singleton] <;> omega); · ((try dsimp only) <;> simp only [hm, h0, str_size, List.length_singleton] <;> omega))) | (guard_target =~ AskL _ _; first | (refine AskL.mk ?_ ?_; · ((simp only [conj]; repeat' apply And.intro) <;> first | rfl | trivial | omega | (simp only [hm, h0, str_size, List.length_singleton]; done) | (simp only [hm, h0, str_size, List.length_singleton] <;> omega) | (simp only [hm, h0, str_size, List.length_singleton]; refine Bool.eq_iff_iff.2 ?_; simp only [decide_eq_true_eq, Bool.false_eq_true, true_iff, iff_true, false_iff, iff_false, eq_self]; omega) | (simp only [*, hm, h0, str_size, List.length_singleton]; done))) | refine L1 ?_) | (guard_target =~ Go.Eng.Ask _ _; first | refine K1 ?_ | (refine Ask.mk ?_ ?_; · ((try dsimp only) <;> simp only [hm, h0, str_size, List.length_singleton] <;> omega))) | (guard_target =~ CallP _ _ _ _ _; first | refine H1 ck fun ck => ?_ | refine H2 ck fun ck => ?_) | (guard_target =~ All' _ _; first | (refine Y2 fun y he he' hy => ?_; (try dsimp only at he he' hy)) | (refine Y1 fun y he hy => ?_; (try with_reducible conv at he => (rhs; whnf)); (try dsimp only at he hy)) | (refine All'.mk ?_; intro y hy)) | refine F4 (fun h => ?_) fun h => ?_ | refine R1 ?_ | refine Q1 ?_ | fail)); all_goals (conv => whnf))
    refine Some'.mk (j + 1) ?_
    have lm := And.intro h0 hst
    exact G1
  · obtain rfl : j = padN s := by omega
    have heq : (s.size + padN s) % 8 = 7 := by rw [hpn]; omega
    have hjb : padN s ≤ 8 := by rw [hpn]; omega
    have hhi : padS s (padN s) ++ strOfNums [((s.size % 256 : Nat) : Int)] = hashIn s := rfl
    have hhs := hashIn_size s
    have hw8 : IntKind.u8.wrap ((s.size % 256 : Nat) : Int) = ((s.size % 256 : Nat) : Int) := wrap_u8 (by omega) (by omega)
    rw [heq] at hm
    have hm : (((padS s (padN s)).size : Nat) : Int).tmod 8 = 7 := hm
    have hm2 : ((((padS s (padN s)).size : Nat) : Int).tmod 8 != 7) = false := by rw [hm]; rfl
    ((repeat' ((conv => whnf) <;> first | exact True.intro | (guard_target =~ Fork _ _ _; first | refine F1 ?_ | refine F2 ?_ | (refine Fork.pos ?_ ?_; · (simp only [hm, hm2, str_size, List.length_singleton, Bool.not_true, Bool.not_false, decide_eq_true_eq, beq_iff_eq, bne_iff_ne, ne_eq] <;> omega)) | (refine Fork.neg ?_ ?_; · (simp only [hm, hm2, str_size, List.length_singleton, Bool.not_true, Bool.not_false, decide_eq_false_iff_not, beq_eq_false_iff_ne] <;> omega)) | refine F3 (fun h => ?_) fun h => ?_) | (guard_target =~ Ar _ _ _; first | refine A1 ?_ | refine A2 ?_ | refine A3 ?_ | (refine Ar.fit (wrap_i64 ?_ ?_) ?_; · ((try dsimp only) <;> simp only [hm, hm2, str_size, List.length_singleton] <;> omega); · ((try dsimp only) <;> simp only [hm, hm2, str_size, List.length_singleton] <;> omega)) | (refine Ar.fit (wrap_u64 ?_ ?_) ?_; · ((try dsimp only) <;> simp only [hm, hm2, str_size, List.length_singleton] <;> omega); · ((try dsimp only) <;> simp only [hm, hm2, str_size, List.length_singleton] <;> omega))) | (guard_target =~ AskL _ _; first | (refine AskL.mk ?_ ?_; · ((simp only [conj]; repeat' apply And.intro) <;> first | rfl | trivial | omega | (simp only [hm, hm2, str_size, List.length_singleton]; done) | (simp only [hm, hm2, str_size, List.length_singleton] <;> omega) | (simp only [hm, hm2, str_size, List.length_singleton]; refine Bool.eq_iff_iff.2 ?_; simp only [decide_eq_true_eq, Bool.false_eq_true, true_iff, iff_true, false_iff, iff_false, eq_self]; omega) | (simp only [*, hm, hm2, str_size, List.length_singleton]; done))) | refine L1 ?_) | (guard_target =~ Go.Eng.Ask _ _; first | refine K1 ?_ | (refine Ask.mk ?_ ?_; · ((try dsimp only) <;> simp only [hm, hm2, str_size, List.length_singleton] <;> omega))) | (guard_target =~ CallP _ _ _ _ _; first | refine H1 ck fun ck => ?_ | refine H2 ck fun ck => ?_) | (guard_target =~ All' _ _; first | (refine Y2 fun y he he' hy => ?_; (try dsimp only at he he' hy)) | (refine Y1 fun y he hy => ?_; (try with_reducible conv at he => (rhs; whnf)); (try dsimp only at he hy)) | (refine All'.mk ?_; intro y hy)) | refine F4 (fun h => ?_) fun h => ?_ | refine R1 ?_ | refine Q1 ?_ | fail)); all_goals (conv => whnf))
    refine Some'.mk ⟨⟨bxor A 8317987319222330741, bxor B 7237128888997146477, bxor A 7816392313619706465, bxor B 8387220255154660723⟩, hashIn s⟩ ?_
    have lm := And.intro hw8 hhi
    (refine Z ?_; repeat' (first | exact .intro | ((first | refine B1 (fun h => ?_) fun h => ?_ | refine B2 fun y he he' hy => ?_ | refine B3 fun y he hy => ?_ | refine B4 fun y hy => ?_ | refine B5 fun ck => ?_ | fail) <;> refine Z ?_)))
    refine Ask.mk ⟨rfl, hhs.1, Nat.le_trans hhs.2 (show s.size + 8 ≤ 1000000000008 by omega)⟩ ?_
    clear hm hm2 hhi hhs hw8 heq hjb hsz hge h1 hn hpn h0
    (refine Z ?_; repeat' (first | exact .intro | ((first | refine B1 (fun h => ?_) fun h => ?_ | refine B2 fun y he he' hy => ?_ | refine B3 fun y he hy => ?_ | refine B4 fun y hy => ?_ | refine B5 fun ck => ?_ | fail) <;> refine Z ?_)))
    refine AllI.mk ?_
    rintro ⟨v, t⟩ ⟨h1, h2, h3⟩
    dsimp only at h1 h2 h3
    rcases Nat.eq_zero_or_pos t.size with hz | hp
    · have hv : hashV ⟨A, B, s⟩ = hashE v := by
        unfold hashV; rw [h1, hashF_end hz]
      obtain ⟨a, b, c, d⟩ := v
      have hz' : ((t.size : Nat) : Int) = 0 := by omega
      have ck : Hc roundC ⟨a, b, bxor c 255, d⟩ True := .mk trivial
      (refine Z ?_; repeat' (first | exact .intro | ((first | refine B1 (fun h => ?_) fun h => ?_ | refine B2 fun y he he' hy => ?_ | refine B3 fun y he hy => ?_ | refine B4 fun y hy => ?_ | refine B5 fun ck => ?_ | fail) <;> refine Z ?_)))
      subst he
      have ck : Hc roundC (roundV ⟨a, b, bxor c 255, d⟩) True := .mk trivial
      (refine Z ?_; repeat' (first | exact .intro | ((first | refine B1 (fun h => ?_) fun h => ?_ | refine B2 fun y he he' hy => ?_ | refine B3 fun y he hy => ?_ | refine B4 fun y hy => ?_ | refine B5 fun ck => ?_ | fail) <;> refine Z ?_)))
      subst he
      have ck : Hc roundC (roundV (roundV ⟨a, b, bxor c 255, d⟩)) True := .mk trivial
      (refine Z ?_; repeat' (first | exact .intro | ((first | refine B1 (fun h => ?_) fun h => ?_ | refine B2 fun y he he' hy => ?_ | refine B3 fun y he hy => ?_ | refine B4 fun y hy => ?_ | refine B5 fun ck => ?_ | fail) <;> refine Z ?_)))
      subst he
      (refine Z ?_; repeat' (first | exact .intro | ((first | refine B1 (fun h => ?_) fun h => ?_ | refine B2 fun y he he' hy => ?_ | refine B3 fun y he hy => ?_ | refine B4 fun y hy => ?_ | refine B5 fun ck => ?_ | fail) <;> refine Z ?_)))
      refine CallP.mk (C := roundC) (roundV (roundV (roundV ⟨a, b, bxor c 255, d⟩))) ?_
      (refine Zn ?_; repeat' (first | exact .intro | ((first | refine B1 (fun h => ?_) fun h => ?_ | refine B2 fun y he he' hy => ?_ | refine B3 fun y he hy => ?_ | refine B4 fun y hy => ?_ | refine B5 fun ck => ?_ | fail) <;> refine Zn ?_)))
      refine AskL.mk ⟨⟨⟨rfl, rfl⟩, rfl⟩, rfl⟩ ?_
      (refine Zn ?_; repeat' (first | exact .intro | ((first | refine B1 (fun h => ?_) fun h => ?_ | refine B2 fun y he he' hy => ?_ | refine B3 fun y he hy => ?_ | refine B4 fun y hy => ?_ | refine B5 fun ck => ?_ | fail) <;> refine Zn ?_)))
      subst he
      (refine Zn ?_; repeat' (first | exact .intro | ((first | refine B1 (fun h => ?_) fun h => ?_ | refine B2 fun y he he' hy => ?_ | refine B3 fun y he hy => ?_ | refine B4 fun y hy => ?_ | refine B5 fun ck => ?_ | fail) <;> refine Zn ?_)))
      refine AskL.mk ?_ trivial
      exact hv.symm
    · have h8 : 8 ≤ t.size := by omega
      (refine Z ?_; repeat' (first | exact .intro | ((first | refine B1 (fun h => ?_) fun h => ?_ | refine B2 fun y he he' hy => ?_ | refine B3 fun y he hy => ?_ | refine B4 fun y hy => ?_ | refine B5 fun ck => ?_ | fail) <;> refine Z ?_)))
      refine Some'.mk ⟨v, t, 0, 8⟩ ?_
      (refine Z ?_; repeat' (first | exact .intro | ((first | refine B1 (fun h => ?_) fun h => ?_ | refine B2 fun y he he' hy => ?_ | refine B3 fun y he hy => ?_ | refine B4 fun y hy => ?_ | refine B5 fun ck => ?_ | fail) <;> refine Z ?_)))
      clear h8 h1 h2 h3
      refine AllI.mk ?_
      rintro ⟨v', t', w, i⟩ ⟨h1, h2, h3, h4, h5, h6, h7⟩
      dsimp only at h1 h2 h3 h4 h5 h6 h7
      cases i with
      | succ k =>
        have hik : (((k + 1 : Nat) : Int) - 1).toNat = k := by omega
        have lm := hik
        (refine Z ?_; repeat' (first | exact .intro | ((first | refine B1 (fun h => ?_) fun h => ?_ | refine B2 fun y he he' hy => ?_ | refine B3 fun y he hy => ?_ | refine B4 fun y hy => ?_ | refine B5 fun ck => ?_ | fail) <;> refine Z ?_)))
        refine Ar.wrap ?_
        (refine Z ?_; repeat' (first | exact .intro | ((first | refine B1 (fun h => ?_) fun h => ?_ | refine B2 fun y he he' hy => ?_ | refine B3 fun y he hy => ?_ | refine B4 fun y hy => ?_ | refine B5 fun ck => ?_ | fail) <;> refine Z ?_)))
        refine Ar.wrap ?_
        (refine Z ?_; repeat' (first | exact .intro | ((first | refine B1 (fun h => ?_) fun h => ?_ | refine B2 fun y he he' hy => ?_ | refine B3 fun y he hy => ?_ | refine B4 fun y hy => ?_ | refine B5 fun ck => ?_ | fail) <;> refine Z ?_)))
        refine Some'.mk ⟨v', t', IntKind.u64.wrap (IntKind.u64.wrap (w * 256) + IntKind.u64.wrap (byteAt t' k)), k⟩ ?_
        (refine Z ?_; repeat' (first | exact .intro | ((first | refine B1 (fun h => ?_) fun h => ?_ | refine B2 fun y he he' hy => ?_ | refine B3 fun y he hy => ?_ | refine B4 fun y hy => ?_ | refine B5 fun ck => ?_ | fail) <;> refine Z ?_)))
        refine Ask.mk ⟨h1, h2, h3, h4, h5, Nat.le_of_succ_le h6, h7⟩ ?_
        exact G1
      | zero =>
        obtain ⟨a, b, c, d⟩ := v'
        have hcs := cut_size t'
        rw [hashF_step h4, h7] at h1
        have ck : Hc roundC ⟨a, b, c, bxor d w⟩ True := .mk trivial
        (refine Z ?_; repeat' (first | exact .intro | ((first | refine B1 (fun h => ?_) fun h => ?_ | refine B2 fun y he he' hy => ?_ | refine B3 fun y he hy => ?_ | refine B4 fun y hy => ?_ | refine B5 fun ck => ?_ | fail) <;> refine Z ?_)))
        subst he
        have ck : Hc roundC (roundV ⟨a, b, c, bxor d w⟩) True := .mk trivial
        (refine Z ?_; repeat' (first | exact .intro | ((first | refine B1 (fun h => ?_) fun h => ?_ | refine B2 fun y he he' hy => ?_ | refine B3 fun y he hy => ?_ | refine B4 fun y hy => ?_ | refine B5 fun ck => ?_ | fail) <;> refine Z ?_)))
        subst he
        (refine Z ?_; repeat' (first | exact .intro | ((first | refine B1 (fun h => ?_) fun h => ?_ | refine B2 fun y he he' hy => ?_ | refine B3 fun y he hy => ?_ | refine B4 fun y hy => ?_ | refine B5 fun ck => ?_ | fail) <;> refine Z ?_)))
        refine Some'.mk ⟨stepV ⟨a, b, c, d⟩ w, t'.extract 8 t'.size⟩ ?_
        (refine Z ?_; repeat' (first | exact .intro | ((first | refine B1 (fun h => ?_) fun h => ?_ | refine B2 fun y he he' hy => ?_ | refine B3 fun y he hy => ?_ | refine B4 fun y hy => ?_ | refine B5 fun ck => ?_ | fail) <;> refine Z ?_)))
        refine Ask.mk ⟨h1, by rw [hcs]; omega, by rw [hcs]; omega⟩ ?_
        have h5 : t'.size = t.size := h5
        exact G1

end Go.Proofs.YthmbdjhlfieldaaGreatDoor

set_option linter.unusedVariables false
set_option linter.unusedSimpArgs false
set_option maxRecDepth 100000
namespace Go.Proofs.YthmbdjhlfieldaaGreatDoor
open Go.Eng
theorem bor_nat {a b : Nat} (ha : a < 18446744073709551616) (hb : b < 18446744073709551616) : bor (a : Int) (b : Int) = ((a ||| b : Nat) : Int) := by
  have e1 : BitVec.ofInt IntKind.u64.bits (a : Int) = BitVec.ofNat 64 a := rfl
  have e2 : BitVec.ofInt IntKind.u64.bits (b : Int) = BitVec.ofNat 64 b := rfl
  have e3 : ((BitVec.ofNat 64 a) ||| (BitVec.ofNat 64 b)).toNat = a ||| b := by
    rw [BitVec.toNat_or, BitVec.toNat_ofNat, BitVec.toNat_ofNat, Nat.mod_eq_of_lt (by omega), Nat.mod_eq_of_lt (by omega)]
  have hlt : a ||| b < 18446744073709551616 := Nat.or_lt_two_pow (n := 64) ha hb
  show IntKind.u64.wrap ((((BitVec.ofNat 64 a) ||| (BitVec.ofNat 64 b)).toNat : Nat) : Int) = _
  rw [e3]
  exact wrap_u64 (by omega) (by omega)
/-- The value of bytes, the least ahead. -/
def leV : List Int → Nat
  | [] => 0
  | c :: l => c.toNat + 256 * leV l
theorem leV_snoc (c : Int) : ∀ l : List Int, leV (l ++ [c]) = leV l + c.toNat * 256 ^ l.length
  | [] => by simp [leV]
  | x :: l => by
    simp only [List.cons_append, leV, leV_snoc c l, List.length_cons, Nat.pow_succ]
    generalize 256 ^ l.length = p
    have : 256 * (c.toNat * p) = c.toNat * (p * 256) := by rw [Nat.mul_comm p 256, Nat.mul_left_comm]
    omega
theorem leV_lt : ∀ l : List Int, okY l → leV l < 256 ^ l.length
  | [], _ => by simp [leV]
  | x :: l, h => by
    have h1 := h x (List.mem_cons_self ..)
    have h2 := leV_lt l (fun c hc => h c (List.mem_cons_of_mem _ hc))
    simp only [leV, List.length_cons, Nat.pow_succ]
    omega
theorem pow256 (n : Nat) : 256 ^ n = 2 ^ (8 * n) := by rw [Nat.pow_mul]
theorem leV_or {l : List Int} (h : okY l) {c : Int} (hc : 0 ≤ c ∧ c < 256) (hl : l.length ≤ 7) : bor (leV l : Int) ((c.toNat * 256 ^ l.length : Nat) : Int) = ((leV (l ++ [c]) : Nat) : Int) := by
  have h1 := leV_lt l h
  have h2 : 256 ^ l.length ≤ 256 ^ 7 := Nat.pow_le_pow_right (by omega) hl
  have h3 : c.toNat * 256 ^ l.length ≤ 255 * 256 ^ l.length := Nat.mul_le_mul_right _ (by omega)
  have h4 : (256 : Nat) ^ 7 = 72057594037927936 := by decide
  rw [bor_nat (by omega) (by omega), leV_snoc]
  have h5 := Nat.shiftLeft_add_eq_or_of_lt (a := c.toNat) (i := 8 * l.length) (b := leV l) (by rw [← pow256]; exact h1)
  rw [Nat.shiftLeft_eq, ← pow256] at h5
  rw [Nat.or_comm, ← h5, Nat.add_comm]

/-- The reference's hash, over bytes as a list. -/
def hashL (v : V4) (l : List Int) : V4 := if h : 8 ≤ l.length then hashL (stepV v ((leV (l.take 8) : Nat) : Int)) (l.drop 8) else v
termination_by l.length
decreasing_by rw [List.length_drop]; omega
theorem hashL_step {v : V4} {l : List Int} (h : 8 ≤ l.length) : hashL v l = hashL (stepV v ((leV (l.take 8) : Nat) : Int)) (l.drop 8) := by rw [hashL, dif_pos h]
theorem hashL_end {v : V4} {l : List Int} (h : l.length < 8) : hashL v l = v := by rw [hashL, dif_neg (by omega)]
theorem hashL_one {v : V4} {r : List Int} (h : r.length = 8) : hashL v r = stepV v ((leV r : Nat) : Int) := by
  rw [hashL_step (by omega), List.take_of_length_le (by omega), List.drop_of_length_le (by omega), hashL_end (by simp)]
theorem hashL_app : ∀ (n : Nat) (v : V4) (a b : List Int), a.length = 8 * n → hashL v (a ++ b) = hashL (hashL v a) b
  | 0, v, a, b, h => by
    have : a = [] := List.length_eq_zero_iff.1 (by omega)
    rw [this, List.nil_append, hashL_end (l := []) (by simp)]
  | n + 1, v, a, b, h => by
    rw [hashL_step (l := a ++ b) (by rw [List.length_append]; omega), hashL_step (l := a) (by omega)]
    have e1 : (a ++ b).take 8 = a.take 8 := List.take_append_of_le_length (by omega)
    have e2 : (a ++ b).drop 8 = a.drop 8 ++ b := List.drop_append_of_le_length (by omega)
    rw [e1, e2]
    exact hashL_app n _ (a.drop 8) b (by rw [List.length_drop]; omega)
theorem wordF_le {l : List Int} (h : okY l) (h8 : 8 ≤ l.length) : ∀ (i k : Nat) (w : Nat), i + k = 8 → w < 256 ^ k → wordF (strOfNums l) i (w : Int) = ((leV (l.take i) + 256 ^ i * w : Nat) : Int)
  | 0, k, w, _, _ => by simp [wordF, leV]
  | i + 1, k, w, hk, hw => by
    obtain ⟨c, hc⟩ : ∃ c, l[i]? = some c := ⟨_, List.getElem?_eq_getElem (by omega)⟩
    have hb : byteAt (strOfNums l) i = c := byteAt_of h hc
    have hcb := h c (List.mem_of_getElem? hc)
    have hp : (256 : Nat) ^ k ≤ 256 ^ 7 := Nat.pow_le_pow_right (by omega) (by omega)
    have h4 : (256 : Nat) ^ 7 = 72057594037927936 := by decide
    have e1 : IntKind.u64.wrap ((w : Int) * 256) = ((w * 256 : Nat) : Int) := by rw [wrap_u64 (by omega) (by omega)]; push_cast; rfl
    have e2 : IntKind.u64.wrap c = c := wrap_u64 (by omega) (by omega)
    have e3 : IntKind.u64.wrap (((w * 256 : Nat) : Int) + c) = ((w * 256 + c.toNat : Nat) : Int) := by rw [wrap_u64 (by omega) (by omega)]; omega
    have ht : l.take (i + 1) = l.take i ++ [c] := by rw [List.take_add_one, hc]; rfl
    have hl : (l.take i).length = i := by rw [List.length_take]; omega
    show wordF (strOfNums l) i (IntKind.u64.wrap (IntKind.u64.wrap ((w : Int) * 256) + IntKind.u64.wrap (byteAt (strOfNums l) i))) = _
    rw [hb, e1, e2, e3, wordF_le h h8 i (k + 1) (w * 256 + c.toNat) (by omega) (by rw [Nat.pow_succ]; omega), ht, leV_snoc, hl, Nat.pow_succ, Nat.mul_add, Nat.mul_comm (256 ^ i) c.toNat, Nat.mul_comm w 256, ← Nat.mul_assoc]
    congr 1
    omega
theorem wordF_8 {l : List Int} (h : okY l) (h8 : 8 ≤ l.length) : wordF (strOfNums l) 8 0 = ((leV (l.take 8) : Nat) : Int) := by
  have := wordF_le h h8 8 0 0 rfl (by omega)
  rw [Nat.mul_zero, Nat.add_zero] at this
  exact this
theorem hash_L : ∀ (n : Nat) (v : V4) (l : List Int), l.length = 8 * n → okY l → hashF v (strOfNums l) = hashL v l
  | 0, v, l, h, _ => by
    have : l = [] := List.length_eq_zero_iff.1 (by omega)
    rw [this, hashF_end (str_size []), hashL_end (by simp)]
  | n + 1, v, l, h, hl => by
    have hs := str_size l
    rw [hashF_step (by omega), hashL_step (by omega), wordF_8 hl (by omega)]
    have e : (strOfNums l).extract 8 (strOfNums l).size = strOfNums (l.drop 8) := by rw [str_extract, hs, List.take_length]
    rw [e]
    exact hash_L n _ (l.drop 8) (by rw [List.length_drop]; omega) (okY_drop hl 8)

structure SpS where
  v : V4
  w : Int
  n : Nat
def spB (s : SpS) (c : Int) : SpS :=
  let w := bor s.w ((c.toNat * 256 ^ (s.n % 8) : Nat) : Int)
  if (s.n + 1) % 8 = 0 then ⟨stepV s.v w, 0, s.n + 1⟩ else ⟨s.v, w, s.n + 1⟩
theorem spB_yes {s : SpS} {c : Int} (h : (s.n + 1) % 8 = 0) : spB s c = ⟨stepV s.v (bor s.w ((c.toNat * 256 ^ (s.n % 8) : Nat) : Int)), 0, s.n + 1⟩ := if_pos h
theorem spB_no {s : SpS} {c : Int} (h : ¬ (s.n + 1) % 8 = 0) : spB s c = ⟨s.v, bor s.w ((c.toNat * 256 ^ (s.n % 8) : Nat) : Int), s.n + 1⟩ := if_neg h
/-- What a sum holds behind bytes. -/
def spL (v : V4) (l : List Int) : SpS := ⟨hashL v (l.take (8 * (l.length / 8))), ((leV (l.drop (8 * (l.length / 8))) : Nat) : Int), l.length⟩
theorem spB_L {v : V4} {l : List Int} {c : Int} (hl : okY l) (hc : 0 ≤ c ∧ c < 256) : spB (spL v l) c = spL v (l ++ [c]) := by
  have h8 : 8 * (l.length / 8) ≤ l.length := by omega
  have hr : (l.drop (8 * (l.length / 8))).length = l.length % 8 := by rw [List.length_drop]; omega
  have hor := leV_or (okY_drop hl (8 * (l.length / 8))) hc (by omega)
  rw [hr] at hor
  have hlen : (l ++ [c]).length = l.length + 1 := by simp
  by_cases h : (l.length + 1) % 8 = 0
  · have e1 : 8 * ((l ++ [c]).length / 8) = (l ++ [c]).length := by rw [hlen]; omega
    rw [spB_yes (s := spL v l) h]
    show (⟨stepV (hashL v (l.take (8 * (l.length / 8)))) (bor ((leV (l.drop (8 * (l.length / 8))) : Nat) : Int) ((c.toNat * 256 ^ (l.length % 8) : Nat) : Int)), 0, l.length + 1⟩ : SpS) = ⟨hashL v ((l ++ [c]).take (8 * ((l ++ [c]).length / 8))), ((leV ((l ++ [c]).drop (8 * ((l ++ [c]).length / 8))) : Nat) : Int), (l ++ [c]).length⟩
    rw [hor, e1, List.take_length, List.drop_length, hlen]
    have e2 : l ++ [c] = l.take (8 * (l.length / 8)) ++ (l.drop (8 * (l.length / 8)) ++ [c]) := by rw [← List.append_assoc, List.take_append_drop]
    have e3 : (l.drop (8 * (l.length / 8)) ++ [c]).length = 8 := by rw [List.length_append, hr, List.length_singleton]; omega
    have e4 : hashL v (l ++ [c]) = stepV (hashL v (l.take (8 * (l.length / 8)))) ((leV (l.drop (8 * (l.length / 8)) ++ [c]) : Nat) : Int) := by
      rw [e2, hashL_app (l.length / 8) v _ _ (by rw [List.length_take]; omega), hashL_one e3]
    rw [e4]; rfl
  · have e1 : 8 * ((l ++ [c]).length / 8) = 8 * (l.length / 8) := by rw [hlen]; omega
    rw [spB_no (s := spL v l) h]
    show (⟨hashL v (l.take (8 * (l.length / 8))), bor ((leV (l.drop (8 * (l.length / 8))) : Nat) : Int) ((c.toNat * 256 ^ (l.length % 8) : Nat) : Int), l.length + 1⟩ : SpS) = ⟨hashL v ((l ++ [c]).take (8 * ((l ++ [c]).length / 8))), ((leV ((l ++ [c]).drop (8 * ((l ++ [c]).length / 8))) : Nat) : Int), (l ++ [c]).length⟩
    rw [hor, e1, hlen, List.take_append_of_le_length (by omega), List.drop_append_of_le_length (by omega)]
/-- The sum of what a sum holds. -/
def spE (s : SpS) : Int := hashE (stepV s.v (bor s.w (((s.n % 256) * 72057594037927936 : Nat) : Int)))
theorem leV_zeros (l : List Int) : ∀ k : Nat, leV (l ++ List.replicate k 0) = leV l
  | 0 => by simp
  | k + 1 => by
    rw [List.replicate_succ', ← List.append_assoc, leV_snoc, leV_zeros l k]; simp
theorem okY_app {a b : List Int} (ha : okY a) (hb : okY b) : okY (a ++ b) := fun c hc => (List.mem_append.1 hc).elim (ha c) (hb c)
theorem okY_zeros (k : Nat) : okY (List.replicate k 0) := fun c hc => by rw [(List.mem_replicate.1 hc).2]; omega
/-- Byte by byte, the reference's hash. -/
theorem sp_hash (a b : Int) {l : List Int} (hl : okY l) :
    spE (spL ⟨bxor a 8317987319222330741, bxor b 7237128888997146477, bxor a 7816392313619706465, bxor b 8387220255154660723⟩ l) = hashV ⟨a, b, strOfNums l⟩ := by
  generalize hv : (⟨bxor a 8317987319222330741, bxor b 7237128888997146477, bxor a 7816392313619706465, bxor b 8387220255154660723⟩ : V4) = v
  have hs := str_size l
  have hp : padN (strOfNums l) = 7 - l.length % 8 := by unfold padN; rw [hs]; omega
  have hin : hashIn (strOfNums l) = strOfNums (l ++ List.replicate (7 - l.length % 8) 0 ++ [((l.length % 256 : Nat) : Int)]) := by
    unfold hashIn padS
    rw [hp, hs, str_cat, str_cat]
  have ho : okY (l ++ List.replicate (7 - l.length % 8) 0 ++ [((l.length % 256 : Nat) : Int)]) := okY_app (okY_app hl (okY_zeros _)) (fun c hc => by rcases List.mem_singleton.1 hc with rfl; omega)
  have hlen : (l ++ List.replicate (7 - l.length % 8) 0 ++ [((l.length % 256 : Nat) : Int)]).length = 8 * (l.length / 8 + 1) := by simp only [List.length_append, List.length_replicate, List.length_singleton]; omega
  have hr : (l.drop (8 * (l.length / 8))).length = l.length % 8 := by rw [List.length_drop]; omega
  show _ = hashE (hashF _ (hashIn (strOfNums l)))
  dsimp only
  rw [hv, hin, hash_L _ _ _ hlen ho]
  show hashE (stepV (hashL v (l.take (8 * (l.length / 8)))) (bor ((leV (l.drop (8 * (l.length / 8))) : Nat) : Int) (((l.length % 256) * 72057594037927936 : Nat) : Int))) = _
  have e2 : l ++ List.replicate (7 - l.length % 8) 0 ++ [((l.length % 256 : Nat) : Int)] = l.take (8 * (l.length / 8)) ++ (l.drop (8 * (l.length / 8)) ++ List.replicate (7 - l.length % 8) 0 ++ [((l.length % 256 : Nat) : Int)]) := by
    rw [← List.append_assoc, ← List.append_assoc, List.take_append_drop]
  have hok2 : okY (l.drop (8 * (l.length / 8)) ++ List.replicate (7 - l.length % 8) 0) := okY_app (okY_drop hl _) (okY_zeros _)
  have hr2 : (l.drop (8 * (l.length / 8)) ++ List.replicate (7 - l.length % 8) 0).length = 7 := by rw [List.length_append, hr, List.length_replicate]; omega
  have hor := leV_or hok2 (c := ((l.length % 256 : Nat) : Int)) (by omega) (by omega)
  rw [hr2, leV_zeros, Int.toNat_natCast, show (256 : Nat) ^ 7 = 72057594037927936 by decide] at hor
  have e9 : (l.drop (8 * (l.length / 8)) ++ List.replicate (7 - l.length % 8) 0 ++ [((l.length % 256 : Nat) : Int)]).length = 8 := by rw [List.length_append, hr2, List.length_singleton]
  rw [hor, e2, hashL_app (l.length / 8) v _ _ (by rw [List.length_take]; omega), hashL_one e9]
end Go.Proofs.YthmbdjhlfieldaaGreatDoor

set_option linter.unusedVariables false
set_option linter.unusedSimpArgs false
set_option maxRecDepth 100000
set_option maxHeartbeats 4000000
namespace Go.Proofs.YthmbdjhlfieldaaGreatDoor
open Go.Eng
@[reducible] def rotC : Ctr := {
  X := Int × Int
  Y := Unit
  args := fun x => [.v (.int .u64 x.1), .v (.int .i64 x.2)]
  rw := fun _ => []
  side := fun x => 0 ≤ x.2 ∧ x.2 < 64
  val := fun _ => ()
  ens := fun _ _ => True
  res := fun x _ => .v (.int .u64 (upV x.1 x.2))
  out := fun _ _ => [] }
theorem and63 (k : Int) (h0 : 0 ≤ k) (h1 : k < 64) : IntKind.u64.wrap ((BitVec.ofInt IntKind.u64.bits k &&& BitVec.ofInt IntKind.u64.bits 63).toNat : Nat) = k := by
  obtain ⟨n, rfl⟩ := Int.eq_ofNat_of_zero_le h0
  have hn : n < 64 := by omega
  have key : ∀ m : Fin 64, IntKind.u64.wrap ((BitVec.ofInt IntKind.u64.bits ((m : Nat) : Int) &&& BitVec.ofInt IntKind.u64.bits 63).toNat : Nat) = ((m : Nat) : Int) := by decide
  exact key ⟨n, hn⟩
theorem rot_ok : rotC.ok Tryz.prog 153 := by
  refine ok_of_vc (An := fun _ => anOf []) (known_nil _) mo Tryz.func153 (by kernel_rfl) (by kernel_rfl) (fun _ _ => trivial) (fun (x : Int × Int) hs => ?_)
  obtain ⟨x, k⟩ := x
  obtain ⟨h0, h1⟩ : 0 ≤ k ∧ k < 64 := hs
  have hw : IntKind.u64.wrap k = k := wrap_u64 (by omega) (by omega)
  have ha := and63 k h0 h1
  have hs : IntKind.u64.wrap (64 - k) = 64 - k := wrap_u64 (by omega) (by omega)
  have ha2 : IntKind.u64.wrap ((BitVec.ofInt IntKind.u64.bits (IntKind.u64.wrap k) &&& BitVec.ofInt IntKind.u64.bits 63).toNat : Nat) = k := by rw [hw]; exact ha
  have lm := ha2
  (refine Z ?_; repeat' (first | exact .intro | ((first | refine B1 (fun h => ?_) fun h => ?_ | refine B2 fun y he he' hy => ?_ | refine B3 fun y he hy => ?_ | refine B4 fun y hy => ?_ | refine B5 fun ck => ?_ | fail) <;> refine Z ?_)))
  refine Ar.wrap ?_
  (refine Z ?_; repeat' (first | exact .intro | ((first | refine B1 (fun h => ?_) fun h => ?_ | refine B2 fun y he he' hy => ?_ | refine B3 fun y he hy => ?_ | refine B4 fun y hy => ?_ | refine B5 fun ck => ?_ | fail) <;> refine Z ?_)))
  refine AskL.mk ?_ trivial
  dsimp only [conj]
  rw [ha2]
  rfl

structure StX where
  v : V4
  o : Option (Int × Int)
@[reducible] def stE (v : V4) (o : Option (Int × Int)) : En := match o with
  | none => [(0, .cells 153 (v4L v))]
  | some p => [(0, .cells 155 (v4L v ++ [.v (.int .u64 p.1), .v (.int .i64 p.2)]))]
@[reducible] def sroundC : Ctr := {
  X := StX
  Y := Unit
  args := fun _ => [.ptr 0 0]
  rw := fun x => stE x.v x.o
  side := fun _ => True
  val := fun _ => ()
  ens := fun _ _ => True
  res := fun _ _ => .tuple []
  out := fun x _ => stE (roundV x.v) x.o }
theorem knownSp1 : Known Tryz.prog (gOf [(153, rotC)]) := known_cons ⟨rot_ok, Tryz.call153⟩ (known_nil _)
theorem sround_ok : sroundC.ok Tryz.prog 138 := by
  refine ok_of_vc (An := fun _ => anOf []) knownSp1 mo Tryz.func138 (by kernel_rfl) (by kernel_rfl) (fun _ _ => trivial) (fun (x : StX) hs => ?_)
  obtain ⟨⟨a, b, c, d⟩, o⟩ := x
  cases o with
  | none =>
    (refine Z ?_; repeat' (first | exact .intro | ((first | refine B1 (fun h => ?_) fun h => ?_ | refine B2 fun y he he' hy => ?_ | refine B3 fun y he hy => ?_ | refine B4 fun y hy => ?_ | refine B5 fun ck => ?_ | fail) <;> refine Z ?_)))
    refine Ar.wrap ?_
    generalize ha1 : IntKind.u64.wrap (_ + _) = a1
    (refine Z ?_; repeat' (first | exact .intro | ((first | refine B1 (fun h => ?_) fun h => ?_ | refine B2 fun y he he' hy => ?_ | refine B3 fun y he hy => ?_ | refine B4 fun y hy => ?_ | refine B5 fun ck => ?_ | fail) <;> refine Z ?_)))
    refine Ar.wrap ?_
    generalize hc1 : IntKind.u64.wrap (_ + _) = c1
    have ck : Hc rotC (b, 13) (Hc rotC (d, 16) (Hc rotC (a1, 32) True)) := .mk (.mk (.mk trivial))
    (refine Z ?_; repeat' (first | exact .intro | ((first | refine B1 (fun h => ?_) fun h => ?_ | refine B2 fun y he he' hy => ?_ | refine B3 fun y he hy => ?_ | refine B4 fun y hy => ?_ | refine B5 fun ck => ?_ | fail) <;> refine Z ?_)))
    refine Ar.wrap ?_
    generalize hc2 : IntKind.u64.wrap (_ + _) = c2
    (refine Z ?_; repeat' (first | exact .intro | ((first | refine B1 (fun h => ?_) fun h => ?_ | refine B2 fun y he he' hy => ?_ | refine B3 fun y he hy => ?_ | refine B4 fun y hy => ?_ | refine B5 fun ck => ?_ | fail) <;> refine Z ?_)))
    refine Ar.wrap ?_
    generalize ha3 : IntKind.u64.wrap (_ + _) = a3
    have ck : Hc rotC (bxor (upV b 13) a1, 17) (Hc rotC (bxor (upV d 16) c1, 21) (Hc rotC (c2, 32) True)) := .mk (.mk (.mk trivial))
    (refine Z ?_; repeat' (first | exact .intro | ((first | refine B1 (fun h => ?_) fun h => ?_ | refine B2 fun y he he' hy => ?_ | refine B3 fun y he hy => ?_ | refine B4 fun y hy => ?_ | refine B5 fun ck => ?_ | fail) <;> refine Z ?_)))
    subst ha3
    subst hc2
    subst hc1
    subst ha1
    refine AskL.mk ?_ trivial
    dsimp only [conj]
    (repeat' apply And.intro) <;> rfl
  | some p =>
    obtain ⟨w, n⟩ := p
    (refine Z ?_; repeat' (first | exact .intro | ((first | refine B1 (fun h => ?_) fun h => ?_ | refine B2 fun y he he' hy => ?_ | refine B3 fun y he hy => ?_ | refine B4 fun y hy => ?_ | refine B5 fun ck => ?_ | fail) <;> refine Z ?_)))
    refine Ar.wrap ?_
    generalize ha1 : IntKind.u64.wrap (_ + _) = a1
    (refine Z ?_; repeat' (first | exact .intro | ((first | refine B1 (fun h => ?_) fun h => ?_ | refine B2 fun y he he' hy => ?_ | refine B3 fun y he hy => ?_ | refine B4 fun y hy => ?_ | refine B5 fun ck => ?_ | fail) <;> refine Z ?_)))
    refine Ar.wrap ?_
    generalize hc1 : IntKind.u64.wrap (_ + _) = c1
    have ck : Hc rotC (b, 13) (Hc rotC (d, 16) (Hc rotC (a1, 32) True)) := .mk (.mk (.mk trivial))
    (refine Z ?_; repeat' (first | exact .intro | ((first | refine B1 (fun h => ?_) fun h => ?_ | refine B2 fun y he he' hy => ?_ | refine B3 fun y he hy => ?_ | refine B4 fun y hy => ?_ | refine B5 fun ck => ?_ | fail) <;> refine Z ?_)))
    refine Ar.wrap ?_
    generalize hc2 : IntKind.u64.wrap (_ + _) = c2
    (refine Z ?_; repeat' (first | exact .intro | ((first | refine B1 (fun h => ?_) fun h => ?_ | refine B2 fun y he he' hy => ?_ | refine B3 fun y he hy => ?_ | refine B4 fun y hy => ?_ | refine B5 fun ck => ?_ | fail) <;> refine Z ?_)))
    refine Ar.wrap ?_
    generalize ha3 : IntKind.u64.wrap (_ + _) = a3
    have ck : Hc rotC (bxor (upV b 13) a1, 17) (Hc rotC (bxor (upV d 16) c1, 21) (Hc rotC (c2, 32) True)) := .mk (.mk (.mk trivial))
    (refine Z ?_; repeat' (first | exact .intro | ((first | refine B1 (fun h => ?_) fun h => ?_ | refine B2 fun y he he' hy => ?_ | refine B3 fun y he hy => ?_ | refine B4 fun y hy => ?_ | refine B5 fun ck => ?_ | fail) <;> refine Z ?_)))
    subst ha3
    subst hc2
    subst hc1
    subst ha1
    refine AskL.mk ?_ trivial
    dsimp only [conj]
    (repeat' apply And.intro) <;> rfl
end Go.Proofs.YthmbdjhlfieldaaGreatDoor

set_option linter.unusedVariables false
set_option linter.unusedSimpArgs false
set_option maxRecDepth 100000
set_option maxHeartbeats 4000000
namespace Go.Proofs.YthmbdjhlfieldaaGreatDoor
open Go.Eng
structure TkX where
  v : V4
  o : Option (Int × Int)
  w : Int
@[reducible] def stakeC : Ctr := {
  X := TkX
  Y := Unit
  args := fun x => [.ptr 0 0, .v (.int .u64 x.w)]
  rw := fun x => stE x.v x.o
  side := fun _ => True
  val := fun _ => ()
  ens := fun _ _ => True
  res := fun _ _ => .tuple []
  out := fun x _ => stE (stepV x.v x.w) x.o }
theorem knownSp2 : Known Tryz.prog (gOf [(138, sroundC)]) := known_cons ⟨sround_ok, Tryz.call138⟩ (known_nil _)
theorem stake_ok : stakeC.ok Tryz.prog 137 := by
  refine ok_of_vc (An := fun _ => anOf []) knownSp2 mo Tryz.func137 (by kernel_rfl) (by kernel_rfl) (fun _ _ => trivial) (fun (x : TkX) hs => ?_)
  obtain ⟨⟨a, b, c, d⟩, o, w⟩ := x
  have key : ∀ v1 v2, roundV ⟨a, b, c, bxor d w⟩ = v1 → roundV v1 = v2 → stepV ⟨a, b, c, d⟩ w = ⟨bxor v2.a w, v2.b, v2.c, v2.d⟩ := fun v1 v2 h1 h2 => by subst h1; subst h2; rfl
  cases o with
  | none =>
    have ck : Hc sroundC ⟨⟨a, b, c, bxor d w⟩, none⟩ True := .mk trivial
    (refine Z ?_; repeat' (first | exact .intro | ((first | refine B1 (fun h => ?_) fun h => ?_ | refine B2 fun y he he' hy => ?_ | refine B3 fun y he hy => ?_ | refine B4 fun y hy => ?_ | refine B5 fun ck => ?_ | fail) <;> refine Z ?_)))
    generalize h1 : roundV _ = v1
    obtain ⟨a1, b1, c1, d1⟩ := v1
    refine CallP.mk (C := sroundC) ⟨⟨a1, b1, c1, d1⟩, none⟩ ?_
    (refine Z ?_; repeat' (first | exact .intro | ((first | refine B1 (fun h => ?_) fun h => ?_ | refine B2 fun y he he' hy => ?_ | refine B3 fun y he hy => ?_ | refine B4 fun y hy => ?_ | refine B5 fun ck => ?_ | fail) <;> refine Z ?_)))
    have hk := key ⟨a1, b1, c1, d1⟩ _ h1 rfl
    refine AskL.mk ?_ trivial
    dsimp only [conj]
    rw [hk]
    (repeat' apply And.intro) <;> rfl
  | some p =>
    obtain ⟨l, n⟩ := p
    have ck : Hc sroundC ⟨⟨a, b, c, bxor d w⟩, some (l, n)⟩ True := .mk trivial
    (refine Z ?_; repeat' (first | exact .intro | ((first | refine B1 (fun h => ?_) fun h => ?_ | refine B2 fun y he he' hy => ?_ | refine B3 fun y he hy => ?_ | refine B4 fun y hy => ?_ | refine B5 fun ck => ?_ | fail) <;> refine Z ?_)))
    generalize h1 : roundV _ = v1
    obtain ⟨a1, b1, c1, d1⟩ := v1
    refine CallP.mk (C := sroundC) ⟨⟨a1, b1, c1, d1⟩, some (l, n)⟩ ?_
    (refine Z ?_; repeat' (first | exact .intro | ((first | refine B1 (fun h => ?_) fun h => ?_ | refine B2 fun y he he' hy => ?_ | refine B3 fun y he hy => ?_ | refine B4 fun y hy => ?_ | refine B5 fun ck => ?_ | fail) <;> refine Z ?_)))
    have hk := key ⟨a1, b1, c1, d1⟩ _ h1 rfl
    refine AskL.mk ?_ trivial
    dsimp only [conj]
    rw [hk]
    (repeat' apply And.intro) <;> rfl

@[reducible] def sipE (j : Nat) (s : SpS) : En := [(j, .cells 155 (v4L s.v ++ [.v (.int .u64 s.w), .v (.int .i64 (s.n : Nat))]))]
@[reducible] def v0F (a b : Int) : V4 := ⟨bxor a 8317987319222330741, bxor b 7237128888997146477, bxor a 7816392313619706465, bxor b 8387220255154660723⟩
@[reducible] def snewC : Ctr := {
  X := Int × Int
  Y := Unit
  args := fun x => [.agg [.v (.int .u64 x.1), .v (.int .u64 x.2)]]
  rw := fun _ => []
  side := fun _ => True
  val := fun _ => ()
  ens := fun _ _ => True
  res := fun _ _ => .ptr 1000 0
  out := fun x _ => sipE 1000 ⟨v0F x.1 x.2, 0, 0⟩ }
theorem snew_ok : snewC.ok Tryz.prog 120 := by
  refine ok_of_vc (An := fun _ => anOf []) (known_nil _) mo Tryz.func120 (by kernel_rfl) (by kernel_rfl) (fun _ _ => trivial) (fun (x : Int × Int) hs => ?_)
  obtain ⟨a, b⟩ := x
  exact G1

structure WrX where
  s : SpS
  b : List Int
@[reducible] def swriteC : Ctr := {
  X := WrX
  Y := Unit
  args := fun x => [.ptr 0 0, .ro true (.int .u8) x.b]
  rw := fun x => sipE 0 x.s
  side := fun x => okY x.b ∧ x.s.n + x.b.length ≤ 1000000000000
  val := fun _ => ()
  ens := fun _ _ => True
  res := fun _ _ => .tuple []
  out := fun x _ => sipE 0 (x.b.foldl spB x.s) }
structure WrS where
  i : Nat
  t : SpS
@[reducible] def swriteL (x : WrX) : LA := {
  X := WrS
  pre := fun s => s.i ≤ x.b.length ∧ (x.b.take s.i).foldl spB x.s = s.t ∧ s.t.n = x.s.n + s.i
  mu := fun s => x.b.length - s.i
  T := fun s => [(0, .ptr 0 0), (8, .ro true (.int .u8) x.b), (9, .v (.int .i64 x.b.length)), (10, .v (.int .i64 (s.i : Nat)))]
  M := fun s => sipE 0 s.t }
theorem knownSp3 : Known Tryz.prog (gOf [(137, stakeC)]) := known_cons ⟨stake_ok, Tryz.call137⟩ (known_nil _)
theorem shl_byte {c : Int} (hc : 0 ≤ c ∧ c < 256) {n : Nat} : IntKind.u64.wrap (c * 2 ^ min (8 * ((n % 8 : Nat) : Int)).toNat IntKind.u64.bits) = ((c.toNat * 256 ^ (n % 8) : Nat) : Int) := by
  have e0 : IntKind.u64.bits = 64 := rfl
  have e1 : min (8 * ((n % 8 : Nat) : Int)).toNat IntKind.u64.bits = 8 * (n % 8) := by rw [e0]; omega
  have e2 : (2 : Int) ^ (8 * (n % 8)) = ((256 ^ (n % 8) : Nat) : Int) := by rw [pow256]; push_cast; rfl
  have h2 : 256 ^ (n % 8) ≤ 256 ^ 7 := Nat.pow_le_pow_right (by omega) (by omega)
  have h4 : (256 : Nat) ^ 7 = 72057594037927936 := by decide
  have h3 : c.toNat * 256 ^ (n % 8) ≤ 255 * 256 ^ (n % 8) := Nat.mul_le_mul_right _ (by omega)
  have e3 : c * ((256 ^ (n % 8) : Nat) : Int) = ((c.toNat * 256 ^ (n % 8) : Nat) : Int) := by
    have : c = ((c.toNat : Nat) : Int) := by omega
    conv => lhs; rw [this]
    push_cast; rfl
  rw [e1, e2, e3]
  exact wrap_u64 (by omega) (by omega)
theorem swrite_ok : swriteC.ok Tryz.prog 121 := by
  refine ok_of_vc (An := fun (x : WrX) => anOf [(0, .loop (swriteL x))]) knownSp3 mo Tryz.func121 (by kernel_rfl) (by kernel_rfl) (fun _ _ => trivial) (fun (x : WrX) hs => ?_)
  obtain ⟨s, b⟩ := x
  obtain ⟨hb, hl⟩ := hs
  dsimp only at hb hl
  (refine Z ?_; repeat' (first | exact .intro | ((first | refine B1 (fun h => ?_) fun h => ?_ | refine B2 fun y he he' hy => ?_ | refine B3 fun y he hy => ?_ | refine B4 fun y hy => ?_ | refine B5 fun ck => ?_ | fail) <;> refine Z ?_)))
  refine Some'.mk ⟨0, s⟩ ?_
  (refine Z ?_; repeat' (first | exact .intro | ((first | refine B1 (fun h => ?_) fun h => ?_ | refine B2 fun y he he' hy => ?_ | refine B3 fun y he hy => ?_ | refine B4 fun y hy => ?_ | refine B5 fun ck => ?_ | fail) <;> refine Z ?_)))
  refine Ask.mk ⟨Nat.zero_le _, rfl, rfl⟩ ?_
  (refine Z ?_; repeat' (first | exact .intro | ((first | refine B1 (fun h => ?_) fun h => ?_ | refine B2 fun y he he' hy => ?_ | refine B3 fun y he hy => ?_ | refine B4 fun y hy => ?_ | refine B5 fun ck => ?_ | fail) <;> refine Z ?_)))
  refine AllI.mk ?_
  rintro ⟨i, ⟨⟨a, b2, c2, d2⟩, w, n⟩⟩ ⟨i1, i2, i3⟩
  dsimp only at i2 i3
  have i1 : i ≤ b.length := i1
  by_cases hi : i = b.length
  · subst hi
    rw [List.take_length] at i2
    exact G1
  · obtain ⟨c, hc⟩ : ∃ c, b[i]? = some c := ⟨_, List.getElem?_eq_getElem (by omega)⟩
    have hcb := hb c (List.mem_of_getElem? hc)
    have hm : ((n : Nat) : Int).tmod 8 = ((n % 8 : Nat) : Int) := tmod_nat n 8
    have hsh := shl_byte hcb (n := n)
    have hwc : IntKind.u64.wrap c = c := wrap_u64 (by omega) (by omega)
    have hst : (b.take (i + 1)).foldl spB s = spB ⟨⟨a, b2, c2, d2⟩, w, n⟩ c := by
      rw [List.take_add_one, hc, List.foldl_append, i2]; rfl
    have lm := And.intro hm hwc
    (refine Zm ?_; repeat' (first | exact .intro | ((first | refine B1 (fun h => ?_) fun h => ?_ | refine B2 fun y he he' hy => ?_ | refine B3 fun y he hy => ?_ | refine B4 fun y hy => ?_ | refine B5 fun ck => ?_ | fail) <;> refine Zm ?_)))
    refine All'.mk ?_; rintro (c' : Int) hc'
    obtain rfl : c = c' := Option.some.inj (hc.symm.trans hc')
    clear hc'
    (refine Z ?_; repeat' (first | exact .intro | ((first | refine B1 (fun h => ?_) fun h => ?_ | refine B2 fun y he he' hy => ?_ | refine B3 fun y he hy => ?_ | refine B4 fun y hy => ?_ | refine B5 fun ck => ?_ | fail) <;> refine Z ?_)))
    refine Ar.wrap ?_
    rw [hwc, hm, hsh]
    have hm2 : ((n : Nat) : Int) + 1 = ((n + 1 : Nat) : Int) := by omega
    have hm3 : (((n : Nat) : Int) + 1).tmod 8 = (((n + 1) % 8 : Nat) : Int) := by rw [hm2]; exact tmod_nat (n + 1) 8
    obtain ⟨W, hW⟩ : ∃ W, bor w ((c.toNat * 256 ^ (n % 8) : Nat) : Int) = W := ⟨_, rfl⟩
    by_cases h8 : (n + 1) % 8 = 0
    · have hs2 : spB ⟨⟨a, b2, c2, d2⟩, w, n⟩ c = ⟨stepV ⟨a, b2, c2, d2⟩ W, 0, n + 1⟩ := by rw [← hW]; exact spB_yes h8
      rw [hs2] at hst
      have hb1 : ((((n : Nat) : Int) + 1).tmod 8 == 0) = true := by rw [hm3, h8]; rfl
      (refine Z ?_; repeat' (first | exact .intro | ((first | refine B1 (fun h => ?_) fun h => ?_ | refine B2 fun y he he' hy => ?_ | refine B3 fun y he hy => ?_ | refine B4 fun y hy => ?_ | refine B5 fun ck => ?_ | fail) <;> refine Z ?_)))
      generalize hG : IntKind.u64.wrap _ = G
      obtain rfl : W = G := hW.symm.trans hG
      refine CallP.mk (C := stakeC) ⟨⟨a, b2, c2, d2⟩, some (W, ((n : Nat) : Int) + 1), W⟩ ?_
      (refine Z ?_; repeat' (first | exact .intro | ((first | refine B1 (fun h => ?_) fun h => ?_ | refine B2 fun y he he' hy => ?_ | refine B3 fun y he hy => ?_ | refine B4 fun y hy => ?_ | refine B5 fun ck => ?_ | fail) <;> refine Z ?_)))
      refine Some'.mk ⟨i + 1, ⟨stepV ⟨a, b2, c2, d2⟩ W, 0, n + 1⟩⟩ ?_
      (refine Z ?_; repeat' (first | exact .intro | ((first | refine B1 (fun h => ?_) fun h => ?_ | refine B2 fun y he he' hy => ?_ | refine B3 fun y he hy => ?_ | refine B4 fun y hy => ?_ | refine B5 fun ck => ?_ | fail) <;> refine Z ?_)))
      refine Ask.mk ⟨by show i + 1 ≤ b.length; omega, hst, by show n + 1 = s.n + (i + 1); omega⟩ ?_
      exact G1
    · have hs2 : spB ⟨⟨a, b2, c2, d2⟩, w, n⟩ c = ⟨⟨a, b2, c2, d2⟩, W, n + 1⟩ := by rw [← hW]; exact spB_no h8
      rw [hs2] at hst
      have hb1 : ((((n : Nat) : Int) + 1).tmod 8 == 0) = false := by rw [hm3]; exact beq_eq_false_iff_ne.2 (by omega)
      (refine Z ?_; repeat' (first | exact .intro | ((first | refine B1 (fun h => ?_) fun h => ?_ | refine B2 fun y he he' hy => ?_ | refine B3 fun y he hy => ?_ | refine B4 fun y hy => ?_ | refine B5 fun ck => ?_ | fail) <;> refine Z ?_)))
      refine Some'.mk ⟨i + 1, ⟨⟨a, b2, c2, d2⟩, W, n + 1⟩⟩ ?_
      (refine Zn ?_; repeat' (first | exact .intro | ((first | refine B1 (fun h => ?_) fun h => ?_ | refine B2 fun y he he' hy => ?_ | refine B3 fun y he hy => ?_ | refine B4 fun y hy => ?_ | refine B5 fun ck => ?_ | fail) <;> refine Zn ?_)))
      refine AskL.mk ?_ ?_
      · dsimp only [conj]
        (repeat' apply And.intro) <;> first | rfl | trivial | omega | exact hW | exact hW.symm
      refine Ask.mk ⟨by show i + 1 ≤ b.length; omega, hst, by show n + 1 = s.n + (i + 1); omega⟩ ?_
      exact G1
end Go.Proofs.YthmbdjhlfieldaaGreatDoor

set_option linter.unusedVariables false
set_option linter.unusedSimpArgs false
set_option maxRecDepth 100000
set_option maxHeartbeats 4000000
namespace Go.Proofs.YthmbdjhlfieldaaGreatDoor
open Go.Eng
def rI : Nat → V4 → V4
  | 0, v => v
  | k + 1, v => rI k (roundV v)
def sumV (s : SpS) : V4 :=
  let v := stepV s.v (bor s.w (((s.n % 256) * 72057594037927936 : Nat) : Int))
  ⟨v.a, v.b, bxor v.c 255, v.d⟩
theorem spE_rI (s : SpS) : spE s = bxor (bxor (bxor (rI 4 (sumV s)).a (rI 4 (sumV s)).b) (rI 4 (sumV s)).c) (rI 4 (sumV s)).d := rfl
@[reducible] def ssumC : Ctr := {
  X := SpS
  Y := Unit
  args := fun _ => [.ptr 0 0]
  rw := fun s => sipE 0 s
  side := fun s => s.n ≤ 1000000000000
  val := fun _ => ()
  ens := fun _ _ => True
  res := fun s _ => .v (.int .u64 (spE s))
  out := fun s _ => sipE 0 s }
structure SmS where
  i : Nat
  v : V4
@[reducible] def ssumL (s : SpS) : LA := {
  X := SmS
  pre := fun t => t.i ≤ 4 ∧ rI (4 - t.i) t.v = rI 4 (sumV s)
  mu := fun t => 4 - t.i
  T := fun t => [(0, .ptr 0 0), (3, .ptr 2 0), (26, .v (.int .i64 (t.i : Nat)))]
  M := fun t => (2, .cells 153 (v4L t.v)) :: sipE 0 s }
theorem knownSm : Known Tryz.prog (gOf [(137, stakeC), (138, sroundC)]) := known_cons ⟨stake_ok, Tryz.call137⟩ (known_cons ⟨sround_ok, Tryz.call138⟩ (known_nil _))
theorem shl_len (n : Nat) : IntKind.u64.wrap (((n : Nat) : Int) * 2 ^ min (56 : Int).toNat IntKind.u64.bits) = (((n % 256) * 72057594037927936 : Nat) : Int) := by
  have e1 : min (56 : Int).toNat IntKind.u64.bits = 56 := rfl
  rw [e1, wrap_u64_mod]
  have e2 : (2 : Int) ^ 56 = 72057594037927936 := by decide
  rw [e2]; omega
theorem ssum_ok : ssumC.ok Tryz.prog 122 := by
  refine ok_of_vc (An := fun (s : SpS) => anOf [(0, .loop (ssumL s))]) knownSm mo Tryz.func122 (by kernel_rfl) (by kernel_rfl) (fun _ _ => trivial) (fun (s : SpS) hs => ?_)
  obtain ⟨⟨a, b, c, d⟩, w, n⟩ := s
  have hs : n ≤ 1000000000000 := hs
  have hwn : IntKind.u64.wrap ((n : Nat) : Int) = ((n : Nat) : Int) := wrap_u64 (by omega) (by omega)
  have hsh := shl_len n
  obtain ⟨W, hW⟩ : ∃ W, bor w (((n % 256) * 72057594037927936 : Nat) : Int) = W := ⟨_, rfl⟩
  obtain ⟨⟨a1, b1, c1, d1⟩, hv⟩ : ∃ v, stepV ⟨a, b, c, d⟩ W = v := ⟨_, rfl⟩
  have hsv : sumV ⟨⟨a, b, c, d⟩, w, n⟩ = ⟨a1, b1, bxor c1 255, d1⟩ := by
    show (let v := stepV ⟨a, b, c, d⟩ (bor w (((n % 256) * 72057594037927936 : Nat) : Int)); (⟨v.a, v.b, bxor v.c 255, v.d⟩ : V4)) = _
    rw [hW, hv]
  (refine Z ?_; repeat' (first | exact .intro | ((first | refine B1 (fun h => ?_) fun h => ?_ | refine B2 fun y he he' hy => ?_ | refine B3 fun y he hy => ?_ | refine B4 fun y hy => ?_ | refine B5 fun ck => ?_ | fail) <;> refine Z ?_)))
  refine Ar.wrap ?_
  rw [hwn, hsh]
  (refine Z ?_; repeat' (first | exact .intro | ((first | refine B1 (fun h => ?_) fun h => ?_ | refine B2 fun y he he' hy => ?_ | refine B3 fun y he hy => ?_ | refine B4 fun y hy => ?_ | refine B5 fun ck => ?_ | fail) <;> refine Z ?_)))
  generalize hG : IntKind.u64.wrap _ = G
  obtain rfl : W = G := hW.symm.trans hG
  refine CallP.mk (C := stakeC) ⟨⟨a, b, c, d⟩, none, W⟩ ?_
  (refine Z ?_; repeat' (first | exact .intro | ((first | refine B1 (fun h => ?_) fun h => ?_ | refine B2 fun y he he' hy => ?_ | refine B3 fun y he hy => ?_ | refine B4 fun y hy => ?_ | refine B5 fun ck => ?_ | fail) <;> refine Z ?_)))
  refine Some'.mk ⟨0, ⟨a1, b1, bxor c1 255, d1⟩⟩ ?_
  (refine Zn ?_; repeat' (first | exact .intro | ((first | refine B1 (fun h => ?_) fun h => ?_ | refine B2 fun y he he' hy => ?_ | refine B3 fun y he hy => ?_ | refine B4 fun y hy => ?_ | refine B5 fun ck => ?_ | fail) <;> refine Zn ?_)))
  refine AskL.mk ?_ ?_
  · dsimp only [conj]
    rw [hv]
    (repeat' apply And.intro) <;> rfl
  refine Ask.mk ⟨Nat.zero_le _, by show rI 4 _ = rI 4 _; rw [hsv]⟩ ?_
  (refine Z ?_; repeat' (first | exact .intro | ((first | refine B1 (fun h => ?_) fun h => ?_ | refine B2 fun y he he' hy => ?_ | refine B3 fun y he hy => ?_ | refine B4 fun y hy => ?_ | refine B5 fun ck => ?_ | fail) <;> refine Z ?_)))
  clear hG hsh hwn
  refine AllI.mk ?_
  rintro ⟨i, ⟨a2, b2, c2, d2⟩⟩ ⟨i1, i2⟩
  have i1 : i ≤ 4 := i1
  dsimp only at i2
  by_cases hi : i = 4
  · subst hi
    have i2 : (⟨a2, b2, c2, d2⟩ : V4) = rI 4 (sumV ⟨⟨a, b, c, d⟩, w, n⟩) := i2
    have hE := spE_rI ⟨⟨a, b, c, d⟩, w, n⟩
    rw [← i2] at hE
    dsimp only at hE
    (refine Z ?_; repeat' (first | exact .intro | ((first | refine B1 (fun h => ?_) fun h => ?_ | refine B2 fun y he he' hy => ?_ | refine B3 fun y he hy => ?_ | refine B4 fun y hy => ?_ | refine B5 fun ck => ?_ | fail) <;> refine Z ?_)))
    refine AskL.mk ?_ trivial
    dsimp only [conj]
    (repeat' apply And.intro) <;> first | rfl | exact hE.symm
  · have hr : rI (4 - (i + 1)) (roundV ⟨a2, b2, c2, d2⟩) = rI 4 (sumV ⟨⟨a, b, c, d⟩, w, n⟩) := by
      rw [← i2, show 4 - i = 4 - (i + 1) + 1 by omega]; rfl
    have ck : Hc sroundC ⟨⟨a2, b2, c2, d2⟩, none⟩ True := .mk trivial
    (refine Z ?_; repeat' (first | exact .intro | ((first | refine B1 (fun h => ?_) fun h => ?_ | refine B2 fun y he he' hy => ?_ | refine B3 fun y he hy => ?_ | refine B4 fun y hy => ?_ | refine B5 fun ck => ?_ | fail) <;> refine Z ?_)))
    refine Some'.mk ⟨i + 1, roundV ⟨a2, b2, c2, d2⟩⟩ ?_
    (refine Z ?_; repeat' (first | exact .intro | ((first | refine B1 (fun h => ?_) fun h => ?_ | refine B2 fun y he he' hy => ?_ | refine B3 fun y he hy => ?_ | refine B4 fun y hy => ?_ | refine B5 fun ck => ?_ | fail) <;> refine Z ?_)))
    refine Ask.mk ⟨by show i + 1 ≤ 4; omega, hr⟩ ?_
    exact G1

theorem fold_spL {v : V4} {l : List Int} (h : okY l) : ∀ k : Nat, (l.take k).foldl spB (spL v []) = spL v (l.take k)
  | 0 => rfl
  | k + 1 => by
    have ih := fold_spL (v := v) h k
    cases hk : l[k]? with
    | none =>
      have hle := List.getElem?_eq_none_iff.1 hk
      rw [List.take_of_length_le (by omega)] at ih ⊢
      exact ih
    | some c =>
      rw [List.take_add_one, hk, Option.toList_some, List.foldl_append, ih]
      exact spB_L (okY_take h k) (h c (List.mem_of_getElem? hk))
theorem sp_all (a b : Int) {l : List Int} (h : okY l) : spE (l.foldl spB ⟨v0F a b, 0, 0⟩) = hashV ⟨a, b, strOfNums l⟩ := by
  have e0 : spL (v0F a b) [] = ⟨v0F a b, 0, 0⟩ := by
    unfold spL
    rw [hashL_end (by simp)]; rfl
  have e1 := fold_spL (v := v0F a b) h l.length
  rw [List.take_length, e0] at e1
  rw [e1]
  exact sp_hash a b h
structure HsX where
  a : Int
  b : Int
  l : List Int
@[reducible] def shashC : Ctr := {
  X := HsX
  Y := Unit
  args := fun x => [.agg [.v (.int .u64 x.a), .v (.int .u64 x.b)], .ro true (.sl (.int .u8)) [x.l]]
  rw := fun _ => []
  side := fun x => okY x.l ∧ x.l.length ≤ 1000000000
  val := fun _ => ()
  ens := fun _ _ => True
  res := fun x _ => .v (.int .u64 (hashV ⟨x.a, x.b, strOfNums x.l⟩))
  out := fun _ _ => [] }
structure HsS where
  i : Nat
  t : SpS
@[reducible] def shashL (x : HsX) : LA := {
  X := HsS
  pre := fun s => (s.i = 0 ∧ s.t = ⟨v0F x.a x.b, 0, 0⟩) ∨ (s.i = 1 ∧ s.t = x.l.foldl spB ⟨v0F x.a x.b, 0, 0⟩)
  mu := fun s => 1 - s.i
  T := fun s => [(5, .ptr 2 0), (10, .ro true (.sl (.int .u8)) [x.l]), (11, .v (.int .i64 1)), (12, .v (.int .i64 (s.i : Nat)))]
  M := fun s => sipE 2 s.t }
theorem knownHs : Known Tryz.prog (gOf [(120, snewC), (121, swriteC), (122, ssumC)]) :=
  known_cons ⟨snew_ok, Tryz.call120⟩ (known_cons ⟨swrite_ok, Tryz.call121⟩ (known_cons ⟨ssum_ok, Tryz.call122⟩ (known_nil _)))
theorem fold_n : ∀ (l : List Int) (s : SpS), (l.foldl spB s).n = s.n + l.length
  | [], s => rfl
  | c :: l, s => by
    rw [List.foldl_cons, fold_n l, List.length_cons]
    have : (spB s c).n = s.n + 1 := by
      by_cases h : (s.n + 1) % 8 = 0
      · rw [spB_yes h]
      · rw [spB_no h]
    omega
theorem shash_ok : shashC.ok Tryz.prog 99 := by
  refine ok_of_vc (An := fun (x : HsX) => anOf [(0, .loop (shashL x))]) knownHs mo Tryz.func99 (by kernel_rfl) (by kernel_rfl) (fun _ _ => trivial) (fun (x : HsX) hs => ?_)
  obtain ⟨a, b, l⟩ := x
  obtain ⟨hl, hlen⟩ := hs
  dsimp only at hl hlen
  have hh := sp_all a b hl
  have hfn := fold_n l ⟨v0F a b, 0, 0⟩
  obtain ⟨F, hF⟩ : ∃ F, l.foldl spB ⟨v0F a b, 0, 0⟩ = F := ⟨_, rfl⟩
  rw [hF] at hh hfn
  dsimp only at hfn
  have ck : Hc snewC (a, b) True := .mk trivial
  (refine Z ?_; repeat' (first | exact .intro | ((first | refine B1 (fun h => ?_) fun h => ?_ | refine B2 fun y he he' hy => ?_ | refine B3 fun y he hy => ?_ | refine B4 fun y hy => ?_ | refine B5 fun ck => ?_ | fail) <;> refine Z ?_)))
  refine Some'.mk ⟨0, ⟨v0F a b, 0, 0⟩⟩ ?_
  (refine Z ?_; repeat' (first | exact .intro | ((first | refine B1 (fun h => ?_) fun h => ?_ | refine B2 fun y he he' hy => ?_ | refine B3 fun y he hy => ?_ | refine B4 fun y hy => ?_ | refine B5 fun ck => ?_ | fail) <;> refine Z ?_)))
  refine Ask.mk (.inl ⟨rfl, rfl⟩) ?_
  (refine Z ?_; repeat' (first | exact .intro | ((first | refine B1 (fun h => ?_) fun h => ?_ | refine B2 fun y he he' hy => ?_ | refine B3 fun y he hy => ?_ | refine B4 fun y hy => ?_ | refine B5 fun ck => ?_ | fail) <;> refine Z ?_)))
  refine AllI.mk ?_
  rintro ⟨i, t⟩ h
  dsimp only at h
  rcases h with ⟨rfl, rfl⟩ | ⟨rfl, rfl⟩
  · clear hh hfn hF
    (refine Zm ?_; repeat' (first | exact .intro | ((first | refine B1 (fun h => ?_) fun h => ?_ | refine B2 fun y he he' hy => ?_ | refine B3 fun y he hy => ?_ | refine B4 fun y hy => ?_ | refine B5 fun ck => ?_ | fail) <;> refine Zm ?_)))
    refine All'.mk ?_; rintro (l' : List Int) hl'
    obtain rfl : l = l' := Option.some.inj hl'
    clear hl'
    have ck : Hc swriteC ⟨⟨v0F a b, 0, 0⟩, l⟩ True := .mk trivial
    (refine Z ?_; repeat' (first | exact .intro | ((first | refine B1 (fun h => ?_) fun h => ?_ | refine B2 fun y he he' hy => ?_ | refine B3 fun y he hy => ?_ | refine B4 fun y hy => ?_ | refine B5 fun ck => ?_ | fail) <;> refine Z ?_)))
    refine Ask.mk ⟨hl, by show 0 + l.length ≤ 1000000000000; omega⟩ ?_
    (refine Z ?_; repeat' (first | exact .intro | ((first | refine B1 (fun h => ?_) fun h => ?_ | refine B2 fun y he he' hy => ?_ | refine B3 fun y he hy => ?_ | refine B4 fun y hy => ?_ | refine B5 fun ck => ?_ | fail) <;> refine Z ?_)))
    refine Some'.mk ⟨1, l.foldl spB ⟨v0F a b, 0, 0⟩⟩ ?_
    (refine Z ?_; repeat' (first | exact .intro | ((first | refine B1 (fun h => ?_) fun h => ?_ | refine B2 fun y he he' hy => ?_ | refine B3 fun y he hy => ?_ | refine B4 fun y hy => ?_ | refine B5 fun ck => ?_ | fail) <;> refine Z ?_)))
    refine Ask.mk (.inr ⟨rfl, rfl⟩) ?_
    exact G1
  · rw [hF]
    have hnF : F.n ≤ 1000000000000 := by omega
    clear hF hfn
    (refine Z ?_; repeat' (first | exact .intro | ((first | refine B1 (fun h => ?_) fun h => ?_ | refine B2 fun y he he' hy => ?_ | refine B3 fun y he hy => ?_ | refine B4 fun y hy => ?_ | refine B5 fun ck => ?_ | fail) <;> refine Z ?_)))
    refine CallP.mk (C := ssumC) F ?_
    (refine Zn ?_; repeat' (first | exact .intro | ((first | refine B1 (fun h => ?_) fun h => ?_ | refine B2 fun y he he' hy => ?_ | refine B3 fun y he hy => ?_ | refine B4 fun y hy => ?_ | refine B5 fun ck => ?_ | fail) <;> refine Zn ?_)))
    refine AskL.mk (by dsimp only [conj]; (repeat' apply And.intro) <;> rfl) ?_
    (refine Zn ?_; repeat' (first | exact .intro | ((first | refine B1 (fun h => ?_) fun h => ?_ | refine B2 fun y he he' hy => ?_ | refine B3 fun y he hy => ?_ | refine B4 fun y hy => ?_ | refine B5 fun ck => ?_ | fail) <;> refine Zn ?_)))
    refine AskL.mk ?_ trivial
    exact hh
end Go.Proofs.YthmbdjhlfieldaaGreatDoor

set_option linter.unusedVariables false
set_option linter.unusedSimpArgs false
set_option maxRecDepth 100000
set_option maxHeartbeats 4000000
namespace Go.Proofs.YthmbdjhlfieldaaGreatDoor
open Go.Eng
@[reducible] def sseedC : Ctr := { seedC with side := fun n => n = 1 ∨ n = 2 }
theorem sseed_ok : sseedC.ok Tryz.prog 100 := by
  refine ok_of_vc (An := fun _ => anOf []) (known_nil _) mo Tryz.func100 (by kernel_rfl) (by kernel_rfl) (fun _ _ => trivial) (fun (n : Int) hs => ?_)
  have hs : n = 1 ∨ n = 2 := hs
  rcases hs with rfl | rfl
  · exact G1
  · exact G1
def hI (l : List Int) (n : Int) : Int := hashV ⟨n, 18446744073709551615 - n, strOfNums l⟩
def markB (l : List Int) (j : Nat) : Int := (((hI l ((j / 8 + 1 : Nat) : Int)).toNat / 256 ^ (7 - j % 8) % 256 : Nat) : Int)
theorem u64_rng (n : Int) : 0 ≤ IntKind.u64.wrap n ∧ IntKind.u64.wrap n < 18446744073709551616 := by rw [wrap_u64_mod]; omega
theorem hash_rng (x : HashX) : 0 ≤ hashV x ∧ hashV x < 18446744073709551616 := u64_rng _
theorem byte_of {h : Int} (h0 : 0 ≤ h) (k : Nat) (hk : k ≤ 7) : IntKind.u8.wrap (h.fdiv (2 ^ min (8 * (7 - ((k : Nat) : Int))).toNat IntKind.u64.bits)) = ((h.toNat / 256 ^ (7 - k) % 256 : Nat) : Int) := by
  have e0 : IntKind.u64.bits = 64 := rfl
  have e1 : min (8 * (7 - ((k : Nat) : Int))).toNat IntKind.u64.bits = 8 * (7 - k) := by rw [e0]; omega
  have e2 : (2 : Int) ^ (8 * (7 - k)) = ((256 ^ (7 - k) : Nat) : Int) := by rw [pow256]; push_cast; rfl
  obtain ⟨n, rfl⟩ := Int.eq_ofNat_of_zero_le h0
  rw [e1, e2, wrap_u8_mod, Int.fdiv_eq_ediv_of_nonneg _ (Int.natCast_nonneg _)]
  show ((n : Int) / ((256 ^ (7 - k) : Nat) : Int)) % 256 = _
  rw [Int.toNat_natCast]
  push_cast
  rfl
@[reducible] def mk16 (f : Nat → Int) : List SV := [.v (.int .u8 (f 0)), .v (.int .u8 (f 1)), .v (.int .u8 (f 2)), .v (.int .u8 (f 3)), .v (.int .u8 (f 4)), .v (.int .u8 (f 5)), .v (.int .u8 (f 6)), .v (.int .u8 (f 7)),
  .v (.int .u8 (f 8)), .v (.int .u8 (f 9)), .v (.int .u8 (f 10)), .v (.int .u8 (f 11)), .v (.int .u8 (f 12)), .v (.int .u8 (f 13)), .v (.int .u8 (f 14)), .v (.int .u8 (f 15))]
def upF (l : List Int) (m j : Nat) : Int := if j < m then markB l j else 0
@[reducible] def smarkC : Ctr := {
  X := List Int
  Y := Unit
  args := fun l => [.ro true (.sl (.int .u8)) [l]]
  rw := fun _ => []
  side := fun l => okY l ∧ l.length ≤ 1000000000
  val := fun _ => ()
  ens := fun _ _ => True
  res := fun l _ => .agg (mk16 (markB l))
  out := fun _ _ => [] }
@[reducible] def smL0 (l : List Int) : LA := {
  X := Nat
  pre := fun i => i ≤ 2
  mu := fun i => 2 - i
  T := fun i => [(0, .ro true (.sl (.int .u8)) [l]), (2, .ptr 3 0), (3, .ptr 2 0), (7, .v (.int .i64 (i : Nat)))]
  M := fun i => [(2, .cells 44 (mk16 (upF l (8 * i)))), (3, .cells 44 (mk16 (fun _ => 0)))] }
structure MkS where
  i : Nat
  k : Nat
@[reducible] def smL2 (l : List Int) (m1 : Nat) : LA := {
  X := MkS
  pre := fun s => (s.i ≤ 1 ∧ 2 - s.i = m1) ∧ s.k ≤ 8
  mu := fun s => 8 - s.k
  T := fun s => [(0, .ro true (.sl (.int .u8)) [l]), (2, .ptr 3 0), (3, .ptr 2 0), (7, .v (.int .i64 (s.i : Nat))), (4, .v (.int .i64 (s.i : Nat))), (5, .v (.int .u64 (hI l ((s.i + 1 : Nat) : Int)))), (15, .v (.int .i64 (s.k : Nat)))]
  M := fun s => [(2, .cells 44 (mk16 (upF l (8 * s.i + s.k)))), (3, .cells 44 (mk16 (fun _ => 0)))] }
theorem knownMk : Known Tryz.prog (gOf [(100, sseedC), (99, shashC)]) := known_cons ⟨sseed_ok, Tryz.call100⟩ (known_cons ⟨shash_ok, Tryz.call99⟩ (known_nil _))
theorem smark_ok : smarkC.ok Tryz.prog 66 := by
  refine ok_of_vc (An := fun (l : List Int) => anOfM fun ms => [(0, .loop (smL0 l)), (2, .loop (smL2 l (ms.headD 0)))]) knownMk mo Tryz.func66 (by kernel_rfl) (by kernel_rfl) (fun _ _ => trivial) (fun (l : List Int) hs => ?_)
  obtain ⟨hl, hlen⟩ : okY l ∧ l.length ≤ 1000000000 := hs
  (refine Z ?_; repeat' (first | exact .intro | ((first | refine B1 (fun h => ?_) fun h => ?_ | refine B2 fun y he he' hy => ?_ | refine B3 fun y he hy => ?_ | refine B4 fun y hy => ?_ | refine B5 fun ck => ?_ | fail) <;> refine Z ?_)))
  refine Some'.mk (0 : Nat) ?_
  (refine Z ?_; repeat' (first | exact .intro | ((first | refine B1 (fun h => ?_) fun h => ?_ | refine B2 fun y he he' hy => ?_ | refine B3 fun y he hy => ?_ | refine B4 fun y hy => ?_ | refine B5 fun ck => ?_ | fail) <;> refine Z ?_)))
  refine AllI.mk ?_
  rintro (i : Nat) i1
  have i1 : i ≤ 2 := i1
  by_cases hi : i = 2
  · subst hi
    exact G1
  · have ck : Hc sseedC ((i + 1 : Nat) : Int) (Hc shashC ⟨((i + 1 : Nat) : Int), 18446744073709551615 - ((i + 1 : Nat) : Int), l⟩ True) := .mk (.mk trivial)
    (refine Z ?_; repeat' (first | exact .intro | ((first | refine B1 (fun h => ?_) fun h => ?_ | refine B2 fun y he he' hy => ?_ | refine B3 fun y he hy => ?_ | refine B4 fun y hy => ?_ | refine B5 fun ck => ?_ | fail) <;> refine Z ?_)))
    refine Some'.mk ⟨i, 0⟩ ?_
    (refine Z ?_; repeat' (first | exact .intro | ((first | refine B1 (fun h => ?_) fun h => ?_ | refine B2 fun y he he' hy => ?_ | refine B3 fun y he hy => ?_ | refine B4 fun y hy => ?_ | refine B5 fun ck => ?_ | fail) <;> refine Z ?_)))
    refine Ask.mk ⟨⟨by show i ≤ 1; omega, rfl⟩, Nat.zero_le _⟩ ?_
    (refine Z ?_; repeat' (first | exact .intro | ((first | refine B1 (fun h => ?_) fun h => ?_ | refine B2 fun y he he' hy => ?_ | refine B3 fun y he hy => ?_ | refine B4 fun y hy => ?_ | refine B5 fun ck => ?_ | fail) <;> refine Z ?_)))
    refine AllI.mk ?_
    rintro ⟨i', k⟩ ⟨⟨j0, j1⟩, j2⟩
    have j1 : 2 - i' = 2 - i := j1
    have j0 : i' ≤ 1 := j0
    have j2 : k ≤ 8 := j2
    obtain rfl : i' = i := by omega
    by_cases hk8 : k = 8
    · subst hk8
      (refine Z ?_; repeat' (first | exact .intro | ((first | refine B1 (fun h => ?_) fun h => ?_ | refine B2 fun y he he' hy => ?_ | refine B3 fun y he hy => ?_ | refine B4 fun y hy => ?_ | refine B5 fun ck => ?_ | fail) <;> refine Z ?_)))
      refine Some'.mk (i' + 1 : Nat) ?_
      exact G1
    · have hcase : (i' = 0 ∨ i' = 1) ∧ (k = 0 ∨ k = 1 ∨ k = 2 ∨ k = 3 ∨ k = 4 ∨ k = 5 ∨ k = 6 ∨ k = 7) := by omega
      clear j0 j1 j2 hi hk8 i1
      obtain ⟨rfl | rfl, rfl | rfl | rfl | rfl | rfl | rfl | rfl | rfl⟩ := hcase
      · have hk : IntKind.u8.wrap ((hI l 1).fdiv (2 ^ min (8 * (7 - ((0 : Nat) : Int))).toNat IntKind.u64.bits)) = markB l 0 := byte_of (hash_rng _).1 0 (by omega)
        (refine Z ?_; repeat' (first | exact .intro | ((first | refine B1 (fun h => ?_) fun h => ?_ | refine B2 fun y he he' hy => ?_ | refine B3 fun y he hy => ?_ | refine B4 fun y hy => ?_ | refine B5 fun ck => ?_ | fail) <;> refine Z ?_)))
        refine Some'.mk ⟨0, 1⟩ ?_
        (refine Zn ?_; repeat' (first | exact .intro | ((first | refine B1 (fun h => ?_) fun h => ?_ | refine B2 fun y he he' hy => ?_ | refine B3 fun y he hy => ?_ | refine B4 fun y hy => ?_ | refine B5 fun ck => ?_ | fail) <;> refine Zn ?_)))
        refine AskL.mk ?_ ?_
        · dsimp only [conj]
          (repeat' apply And.intro) <;> first | rfl | exact hk
        exact G1
      · have hk : IntKind.u8.wrap ((hI l 1).fdiv (2 ^ min (8 * (7 - ((1 : Nat) : Int))).toNat IntKind.u64.bits)) = markB l 1 := byte_of (hash_rng _).1 1 (by omega)
        (refine Z ?_; repeat' (first | exact .intro | ((first | refine B1 (fun h => ?_) fun h => ?_ | refine B2 fun y he he' hy => ?_ | refine B3 fun y he hy => ?_ | refine B4 fun y hy => ?_ | refine B5 fun ck => ?_ | fail) <;> refine Z ?_)))
        refine Some'.mk ⟨0, 2⟩ ?_
        (refine Zn ?_; repeat' (first | exact .intro | ((first | refine B1 (fun h => ?_) fun h => ?_ | refine B2 fun y he he' hy => ?_ | refine B3 fun y he hy => ?_ | refine B4 fun y hy => ?_ | refine B5 fun ck => ?_ | fail) <;> refine Zn ?_)))
        refine AskL.mk ?_ ?_
        · dsimp only [conj]
          (repeat' apply And.intro) <;> first | rfl | exact hk
        exact G1
      · have hk : IntKind.u8.wrap ((hI l 1).fdiv (2 ^ min (8 * (7 - ((2 : Nat) : Int))).toNat IntKind.u64.bits)) = markB l 2 := byte_of (hash_rng _).1 2 (by omega)
        (refine Z ?_; repeat' (first | exact .intro | ((first | refine B1 (fun h => ?_) fun h => ?_ | refine B2 fun y he he' hy => ?_ | refine B3 fun y he hy => ?_ | refine B4 fun y hy => ?_ | refine B5 fun ck => ?_ | fail) <;> refine Z ?_)))
        refine Some'.mk ⟨0, 3⟩ ?_
        (refine Zn ?_; repeat' (first | exact .intro | ((first | refine B1 (fun h => ?_) fun h => ?_ | refine B2 fun y he he' hy => ?_ | refine B3 fun y he hy => ?_ | refine B4 fun y hy => ?_ | refine B5 fun ck => ?_ | fail) <;> refine Zn ?_)))
        refine AskL.mk ?_ ?_
        · dsimp only [conj]
          (repeat' apply And.intro) <;> first | rfl | exact hk
        exact G1
      · have hk : IntKind.u8.wrap ((hI l 1).fdiv (2 ^ min (8 * (7 - ((3 : Nat) : Int))).toNat IntKind.u64.bits)) = markB l 3 := byte_of (hash_rng _).1 3 (by omega)
        (refine Z ?_; repeat' (first | exact .intro | ((first | refine B1 (fun h => ?_) fun h => ?_ | refine B2 fun y he he' hy => ?_ | refine B3 fun y he hy => ?_ | refine B4 fun y hy => ?_ | refine B5 fun ck => ?_ | fail) <;> refine Z ?_)))
        refine Some'.mk ⟨0, 4⟩ ?_
        (refine Zn ?_; repeat' (first | exact .intro | ((first | refine B1 (fun h => ?_) fun h => ?_ | refine B2 fun y he he' hy => ?_ | refine B3 fun y he hy => ?_ | refine B4 fun y hy => ?_ | refine B5 fun ck => ?_ | fail) <;> refine Zn ?_)))
        refine AskL.mk ?_ ?_
        · dsimp only [conj]
          (repeat' apply And.intro) <;> first | rfl | exact hk
        exact G1
      · have hk : IntKind.u8.wrap ((hI l 1).fdiv (2 ^ min (8 * (7 - ((4 : Nat) : Int))).toNat IntKind.u64.bits)) = markB l 4 := byte_of (hash_rng _).1 4 (by omega)
        (refine Z ?_; repeat' (first | exact .intro | ((first | refine B1 (fun h => ?_) fun h => ?_ | refine B2 fun y he he' hy => ?_ | refine B3 fun y he hy => ?_ | refine B4 fun y hy => ?_ | refine B5 fun ck => ?_ | fail) <;> refine Z ?_)))
        refine Some'.mk ⟨0, 5⟩ ?_
        (refine Zn ?_; repeat' (first | exact .intro | ((first | refine B1 (fun h => ?_) fun h => ?_ | refine B2 fun y he he' hy => ?_ | refine B3 fun y he hy => ?_ | refine B4 fun y hy => ?_ | refine B5 fun ck => ?_ | fail) <;> refine Zn ?_)))
        refine AskL.mk ?_ ?_
        · dsimp only [conj]
          (repeat' apply And.intro) <;> first | rfl | exact hk
        exact G1
      · have hk : IntKind.u8.wrap ((hI l 1).fdiv (2 ^ min (8 * (7 - ((5 : Nat) : Int))).toNat IntKind.u64.bits)) = markB l 5 := byte_of (hash_rng _).1 5 (by omega)
        (refine Z ?_; repeat' (first | exact .intro | ((first | refine B1 (fun h => ?_) fun h => ?_ | refine B2 fun y he he' hy => ?_ | refine B3 fun y he hy => ?_ | refine B4 fun y hy => ?_ | refine B5 fun ck => ?_ | fail) <;> refine Z ?_)))
        refine Some'.mk ⟨0, 6⟩ ?_
        (refine Zn ?_; repeat' (first | exact .intro | ((first | refine B1 (fun h => ?_) fun h => ?_ | refine B2 fun y he he' hy => ?_ | refine B3 fun y he hy => ?_ | refine B4 fun y hy => ?_ | refine B5 fun ck => ?_ | fail) <;> refine Zn ?_)))
        refine AskL.mk ?_ ?_
        · dsimp only [conj]
          (repeat' apply And.intro) <;> first | rfl | exact hk
        exact G1
      · have hk : IntKind.u8.wrap ((hI l 1).fdiv (2 ^ min (8 * (7 - ((6 : Nat) : Int))).toNat IntKind.u64.bits)) = markB l 6 := byte_of (hash_rng _).1 6 (by omega)
        (refine Z ?_; repeat' (first | exact .intro | ((first | refine B1 (fun h => ?_) fun h => ?_ | refine B2 fun y he he' hy => ?_ | refine B3 fun y he hy => ?_ | refine B4 fun y hy => ?_ | refine B5 fun ck => ?_ | fail) <;> refine Z ?_)))
        refine Some'.mk ⟨0, 7⟩ ?_
        (refine Zn ?_; repeat' (first | exact .intro | ((first | refine B1 (fun h => ?_) fun h => ?_ | refine B2 fun y he he' hy => ?_ | refine B3 fun y he hy => ?_ | refine B4 fun y hy => ?_ | refine B5 fun ck => ?_ | fail) <;> refine Zn ?_)))
        refine AskL.mk ?_ ?_
        · dsimp only [conj]
          (repeat' apply And.intro) <;> first | rfl | exact hk
        exact G1
      · have hk : IntKind.u8.wrap ((hI l 1).fdiv (2 ^ min (8 * (7 - ((7 : Nat) : Int))).toNat IntKind.u64.bits)) = markB l 7 := byte_of (hash_rng _).1 7 (by omega)
        (refine Z ?_; repeat' (first | exact .intro | ((first | refine B1 (fun h => ?_) fun h => ?_ | refine B2 fun y he he' hy => ?_ | refine B3 fun y he hy => ?_ | refine B4 fun y hy => ?_ | refine B5 fun ck => ?_ | fail) <;> refine Z ?_)))
        refine Some'.mk ⟨0, 8⟩ ?_
        (refine Zn ?_; repeat' (first | exact .intro | ((first | refine B1 (fun h => ?_) fun h => ?_ | refine B2 fun y he he' hy => ?_ | refine B3 fun y he hy => ?_ | refine B4 fun y hy => ?_ | refine B5 fun ck => ?_ | fail) <;> refine Zn ?_)))
        refine AskL.mk ?_ ?_
        · dsimp only [conj]
          (repeat' apply And.intro) <;> first | rfl | exact hk
        exact G1
      · have hk : IntKind.u8.wrap ((hI l 2).fdiv (2 ^ min (8 * (7 - ((0 : Nat) : Int))).toNat IntKind.u64.bits)) = markB l 8 := byte_of (hash_rng _).1 0 (by omega)
        (refine Z ?_; repeat' (first | exact .intro | ((first | refine B1 (fun h => ?_) fun h => ?_ | refine B2 fun y he he' hy => ?_ | refine B3 fun y he hy => ?_ | refine B4 fun y hy => ?_ | refine B5 fun ck => ?_ | fail) <;> refine Z ?_)))
        refine Some'.mk ⟨1, 1⟩ ?_
        (refine Zn ?_; repeat' (first | exact .intro | ((first | refine B1 (fun h => ?_) fun h => ?_ | refine B2 fun y he he' hy => ?_ | refine B3 fun y he hy => ?_ | refine B4 fun y hy => ?_ | refine B5 fun ck => ?_ | fail) <;> refine Zn ?_)))
        refine AskL.mk ?_ ?_
        · dsimp only [conj]
          (repeat' apply And.intro) <;> first | rfl | exact hk
        exact G1
      · have hk : IntKind.u8.wrap ((hI l 2).fdiv (2 ^ min (8 * (7 - ((1 : Nat) : Int))).toNat IntKind.u64.bits)) = markB l 9 := byte_of (hash_rng _).1 1 (by omega)
        (refine Z ?_; repeat' (first | exact .intro | ((first | refine B1 (fun h => ?_) fun h => ?_ | refine B2 fun y he he' hy => ?_ | refine B3 fun y he hy => ?_ | refine B4 fun y hy => ?_ | refine B5 fun ck => ?_ | fail) <;> refine Z ?_)))
        refine Some'.mk ⟨1, 2⟩ ?_
        (refine Zn ?_; repeat' (first | exact .intro | ((first | refine B1 (fun h => ?_) fun h => ?_ | refine B2 fun y he he' hy => ?_ | refine B3 fun y he hy => ?_ | refine B4 fun y hy => ?_ | refine B5 fun ck => ?_ | fail) <;> refine Zn ?_)))
        refine AskL.mk ?_ ?_
        · dsimp only [conj]
          (repeat' apply And.intro) <;> first | rfl | exact hk
        exact G1
      · have hk : IntKind.u8.wrap ((hI l 2).fdiv (2 ^ min (8 * (7 - ((2 : Nat) : Int))).toNat IntKind.u64.bits)) = markB l 10 := byte_of (hash_rng _).1 2 (by omega)
        (refine Z ?_; repeat' (first | exact .intro | ((first | refine B1 (fun h => ?_) fun h => ?_ | refine B2 fun y he he' hy => ?_ | refine B3 fun y he hy => ?_ | refine B4 fun y hy => ?_ | refine B5 fun ck => ?_ | fail) <;> refine Z ?_)))
        refine Some'.mk ⟨1, 3⟩ ?_
        (refine Zn ?_; repeat' (first | exact .intro | ((first | refine B1 (fun h => ?_) fun h => ?_ | refine B2 fun y he he' hy => ?_ | refine B3 fun y he hy => ?_ | refine B4 fun y hy => ?_ | refine B5 fun ck => ?_ | fail) <;> refine Zn ?_)))
        refine AskL.mk ?_ ?_
        · dsimp only [conj]
          (repeat' apply And.intro) <;> first | rfl | exact hk
        exact G1
      · have hk : IntKind.u8.wrap ((hI l 2).fdiv (2 ^ min (8 * (7 - ((3 : Nat) : Int))).toNat IntKind.u64.bits)) = markB l 11 := byte_of (hash_rng _).1 3 (by omega)
        (refine Z ?_; repeat' (first | exact .intro | ((first | refine B1 (fun h => ?_) fun h => ?_ | refine B2 fun y he he' hy => ?_ | refine B3 fun y he hy => ?_ | refine B4 fun y hy => ?_ | refine B5 fun ck => ?_ | fail) <;> refine Z ?_)))
        refine Some'.mk ⟨1, 4⟩ ?_
        (refine Zn ?_; repeat' (first | exact .intro | ((first | refine B1 (fun h => ?_) fun h => ?_ | refine B2 fun y he he' hy => ?_ | refine B3 fun y he hy => ?_ | refine B4 fun y hy => ?_ | refine B5 fun ck => ?_ | fail) <;> refine Zn ?_)))
        refine AskL.mk ?_ ?_
        · dsimp only [conj]
          (repeat' apply And.intro) <;> first | rfl | exact hk
        exact G1
      · have hk : IntKind.u8.wrap ((hI l 2).fdiv (2 ^ min (8 * (7 - ((4 : Nat) : Int))).toNat IntKind.u64.bits)) = markB l 12 := byte_of (hash_rng _).1 4 (by omega)
        (refine Z ?_; repeat' (first | exact .intro | ((first | refine B1 (fun h => ?_) fun h => ?_ | refine B2 fun y he he' hy => ?_ | refine B3 fun y he hy => ?_ | refine B4 fun y hy => ?_ | refine B5 fun ck => ?_ | fail) <;> refine Z ?_)))
        refine Some'.mk ⟨1, 5⟩ ?_
        (refine Zn ?_; repeat' (first | exact .intro | ((first | refine B1 (fun h => ?_) fun h => ?_ | refine B2 fun y he he' hy => ?_ | refine B3 fun y he hy => ?_ | refine B4 fun y hy => ?_ | refine B5 fun ck => ?_ | fail) <;> refine Zn ?_)))
        refine AskL.mk ?_ ?_
        · dsimp only [conj]
          (repeat' apply And.intro) <;> first | rfl | exact hk
        exact G1
      · have hk : IntKind.u8.wrap ((hI l 2).fdiv (2 ^ min (8 * (7 - ((5 : Nat) : Int))).toNat IntKind.u64.bits)) = markB l 13 := byte_of (hash_rng _).1 5 (by omega)
        (refine Z ?_; repeat' (first | exact .intro | ((first | refine B1 (fun h => ?_) fun h => ?_ | refine B2 fun y he he' hy => ?_ | refine B3 fun y he hy => ?_ | refine B4 fun y hy => ?_ | refine B5 fun ck => ?_ | fail) <;> refine Z ?_)))
        refine Some'.mk ⟨1, 6⟩ ?_
        (refine Zn ?_; repeat' (first | exact .intro | ((first | refine B1 (fun h => ?_) fun h => ?_ | refine B2 fun y he he' hy => ?_ | refine B3 fun y he hy => ?_ | refine B4 fun y hy => ?_ | refine B5 fun ck => ?_ | fail) <;> refine Zn ?_)))
        refine AskL.mk ?_ ?_
        · dsimp only [conj]
          (repeat' apply And.intro) <;> first | rfl | exact hk
        exact G1
      · have hk : IntKind.u8.wrap ((hI l 2).fdiv (2 ^ min (8 * (7 - ((6 : Nat) : Int))).toNat IntKind.u64.bits)) = markB l 14 := byte_of (hash_rng _).1 6 (by omega)
        (refine Z ?_; repeat' (first | exact .intro | ((first | refine B1 (fun h => ?_) fun h => ?_ | refine B2 fun y he he' hy => ?_ | refine B3 fun y he hy => ?_ | refine B4 fun y hy => ?_ | refine B5 fun ck => ?_ | fail) <;> refine Z ?_)))
        refine Some'.mk ⟨1, 7⟩ ?_
        (refine Zn ?_; repeat' (first | exact .intro | ((first | refine B1 (fun h => ?_) fun h => ?_ | refine B2 fun y he he' hy => ?_ | refine B3 fun y he hy => ?_ | refine B4 fun y hy => ?_ | refine B5 fun ck => ?_ | fail) <;> refine Zn ?_)))
        refine AskL.mk ?_ ?_
        · dsimp only [conj]
          (repeat' apply And.intro) <;> first | rfl | exact hk
        exact G1
      · have hk : IntKind.u8.wrap ((hI l 2).fdiv (2 ^ min (8 * (7 - ((7 : Nat) : Int))).toNat IntKind.u64.bits)) = markB l 15 := byte_of (hash_rng _).1 7 (by omega)
        (refine Z ?_; repeat' (first | exact .intro | ((first | refine B1 (fun h => ?_) fun h => ?_ | refine B2 fun y he he' hy => ?_ | refine B3 fun y he hy => ?_ | refine B4 fun y hy => ?_ | refine B5 fun ck => ?_ | fail) <;> refine Z ?_)))
        refine Some'.mk ⟨1, 8⟩ ?_
        (refine Zn ?_; repeat' (first | exact .intro | ((first | refine B1 (fun h => ?_) fun h => ?_ | refine B2 fun y he he' hy => ?_ | refine B3 fun y he hy => ?_ | refine B4 fun y hy => ?_ | refine B5 fun ck => ?_ | fail) <;> refine Zn ?_)))
        refine AskL.mk ?_ ?_
        · dsimp only [conj]
          (repeat' apply And.intro) <;> first | rfl | exact hk
        exact G1
end Go.Proofs.YthmbdjhlfieldaaGreatDoor
