/- Parts of the proof, one behind the other (TexI, TexJ, VerI, VerJ, VerK, VerL, VerM, VerN, VerO, VerP, Fzg, VerQ, VerR, VerS, VerT, VerU, VerV, VerW, SetA, SetB, VerX, VerZ, VerY, VerFr, EngY). -/
import Derived.Test.YthmbdjhlfieldaaGreatDoorPk10
import Derived.Lib.BytesEntry
import Derived.Lib.Bytealg
import Derived.LaidMore
import Derived.HandedShaped
import Derived.Lib.LaidTab
set_option linter.unusedVariables false
set_option linter.unnecessarySimpa false
set_option linter.unusedSimpArgs false
set_option linter.unusedSectionVars false
set_option linter.unusedVariables false
set_option linter.unusedSimpArgs false
set_option maxRecDepth 100000
namespace Go.Proofs.YthmbdjhlfieldaaGreatDoor
open Go.Eng
theorem uI_dig {d : Int} (h0 : 0 ≤ d) (h1 : d < 16) : uI (digI d) = d ∧ isH (digI d) = true := by
  unfold digI uI isH
  by_cases h : d < 10
  · rw [if_pos h, if_pos (by omega)]
    exact ⟨by omega, by simp; omega⟩
  · rw [if_neg h, if_neg (by omega), if_pos (by omega)]
    exact ⟨by omega, by simp; omega⟩
theorem unhex_hex : ∀ {l : List Int}, okB l → unhexL (hexL l) = l ∧ (hexL l).all isH = true
  | [], _ => ⟨rfl, rfl⟩
  | c :: l, h => by
    have hc := h c (List.mem_cons_self ..)
    obtain ⟨h1, h2⟩ := unhex_hex (okB_tail h)
    obtain ⟨a1, a2⟩ := uI_dig (d := c / 16) (by omega) (by omega)
    obtain ⟨b1, b2⟩ := uI_dig (d := c % 16) (by omega) (by omega)
    simp only [hexL, unhexL, a1, b1, h1, List.all_cons, a2, b2, h2]
    exact ⟨by congr 1; omega, rfl⟩
theorem isH_rng {c : Int} (h : isH c = true) : (48 ≤ c ∧ c ≤ 57) ∨ (97 ≤ c ∧ c ≤ 102) := by
  simpa [isH] using h
theorem dig_uI {c : Int} (h : isH c = true) : digI (uI c) = c := by
  have := isH_rng h
  unfold digI uI
  by_cases h1 : 48 ≤ c ∧ c ≤ 57
  · rw [if_pos h1, if_pos (by omega)]; omega
  · have h2 : 97 ≤ c ∧ c ≤ 102 := by omega
    rw [if_neg h1, if_pos h2, if_neg (show ¬ c - 87 < 10 by omega)]; omega
theorem hex_unhex : ∀ (k : Nat) (l : List Int), l.length = 2 * k → l.all isH = true → hexL (unhexL l) = l
  | 0, [], _, _ => rfl
  | k + 1, x :: y :: l, h, ha => by
    simp only [List.all_cons, Bool.and_eq_true] at ha
    have ih := hex_unhex k l (by simp at h; omega) ha.2.2
    have hx := uI_rng x
    have hy := uI_rng y
    have e1 : (uI x * 16 + uI y) / 16 = uI x := by omega
    have e2 : (uI x * 16 + uI y) % 16 = uI y := by omega
    simp only [unhexL, hexL, e1, e2, dig_uI ha.1, dig_uI ha.2.1, ih]
  | 0, _ :: _, h, _ => by simp at h
  | k + 1, [], h, _ => by simp at h
  | k + 1, [_], h, _ => by simp at h; omega
theorem okB_hex (l : List Int) (h : okB l) : okB (hexL l) := fun c hc => by
  have := List.all_eq_true.1 (unhex_hex h).2 c hc
  have := isH_rng this
  omega
theorem hex_free {l : List Int} (h : okB l) {c : Int} (hc : isH c = false) : c ∉ hexL l := fun hm => by
  have := List.all_eq_true.1 (unhex_hex h).2 c hm
  rw [hc] at this; cases this

theorem index_two (x y : UInt8) (a b : List UInt8) (h : x ∉ a ∨ (y ∉ a ∧ ¬ x = y)) : Lib.index (a ++ x :: y :: b) [x, y] = (a.length : Nat) := by
  refine Lib.index_first (by simp) (by unfold Lib.occAt; rw [List.drop_left]; simp [List.isPrefixOf]) (fun j hj => ?_)
  unfold Lib.occAt
  rw [List.drop_append_of_le_length (by omega)]
  obtain ⟨p, hp⟩ : ∃ p, a[j]? = some p := ⟨_, List.getElem?_eq_getElem hj⟩
  have hd : a.drop j = p :: a.drop (j + 1) := by
    obtain ⟨h5, h6⟩ := List.getElem?_eq_some_iff.1 hp
    rw [List.drop_eq_getElem_cons h5, h6]
  rw [hd, List.cons_append]
  by_cases hpx : p = x
  · rcases h with h | ⟨h, hxy⟩
    · exact absurd (hpx ▸ List.mem_of_getElem? hp) h
    · cases hq : a.drop (j + 1) with
      | nil => simp [List.isPrefixOf, Ne.symm hxy]
      | cons q r =>
        have hqa : q ∈ a := List.mem_of_mem_drop (i := j + 1) (by rw [hq]; exact List.mem_cons_self ..)
        have : ¬ y = q := fun e => h (e ▸ hqa)
        simp [List.isPrefixOf, this]
  · have : ¬ x = p := fun e => hpx e.symm
    simp [List.isPrefixOf, this]
theorem cut_two {x y : Int} {a b : List Int} (ha : okB a) (hx : 0 ≤ x ∧ x < 256) (hy : 0 ≤ y ∧ y < 256) (h : x ∉ a ∨ (y ∉ a ∧ ¬ x = y)) :
    cutS (strOfNums (a ++ [x, y] ++ b)) (strOfNums [x, y]) = (strOfNums a, strOfNums b, true) := by
  have hb : ∀ z : Int, 0 ≤ z ∧ z < 256 → z ∉ a → UInt8.ofNat z.toNat ∉ (strOfNums a).data.toList := fun z hz hn => by rw [strs_data]; exact u8_mem ha hz.1 hz.2 hn
  have hne : ¬ x = y → ¬ UInt8.ofNat x.toNat = UInt8.ofNat y.toNat := fun hn e => hn (by
    have e2 := congrArg UInt8.toNat e
    rw [UInt8.toNat_ofNat', UInt8.toNat_ofNat', Nat.mod_eq_of_lt (by omega), Nat.mod_eq_of_lt (by omega)] at e2
    omega)
  unfold cutS Lib.cut
  have e1 : (strOfNums [x, y]).data.toList = [UInt8.ofNat x.toNat, UInt8.ofNat y.toNat] := strs_data [x, y]
  have e2 : (strOfNums (a ++ [x, y] ++ b)).data.toList = (strOfNums a).data.toList ++ UInt8.ofNat x.toNat :: UInt8.ofNat y.toNat :: (strOfNums b).data.toList := by
    rw [strs_data, strs_data, strs_data]; simp
  have e := index_two (UInt8.ofNat x.toNat) (UInt8.ofNat y.toNat) (strOfNums a).data.toList (strOfNums b).data.toList (h.imp (hb x hx) (fun k => ⟨hb y hy k.1, hne k.2⟩))
  rw [e1, e2, e, if_pos (by omega)]
  have e3 : (((strOfNums a).data.toList.length : Nat) : Int).toNat = (strOfNums a).data.toList.length := by omega
  have d1 : ((strOfNums a).data.toList ++ UInt8.ofNat x.toNat :: UInt8.ofNat y.toNat :: (strOfNums b).data.toList).take (strOfNums a).data.toList.length = (strOfNums a).data.toList := List.take_left
  have d2 : ((strOfNums a).data.toList ++ UInt8.ofNat x.toNat :: UInt8.ofNat y.toNat :: (strOfNums b).data.toList).drop ((strOfNums a).data.toList.length + [UInt8.ofNat x.toNat, UInt8.ofNat y.toNat].length) = (strOfNums b).data.toList := by rw [← List.drop_drop, List.drop_left]; rfl
  rw [e3]
  dsimp only
  rw [d1, d2]

def valW (b : Bool) (v : List Int) : List Int := if b then [103, 111, 110, 101] else if v = [] then [46] else hexL v
def dotX (d : Dot) : List Int := textL [(d.1, d.2, d.2)]
def itemTx (x : Item) : List Int := hexL (bytesL x.1) ++ ([32] ++ (dotX x.2.1 ++ ([32, 91] ++ (textL x.2.2.1 ++ ([93, 32] ++ valW x.2.2.2.1 x.2.2.2.2)))))
def textI (x : Item) : List Int := if itemB x then itemTx x else []
theorem dot_right {d : Dot} (h : goodB d = true) : rightB [(d.1, d.2, d.2)] = true := right_iff.2 (Rt.nil.cons (good_run h) (fun x h => nomatch h))
theorem dotX_dec {d : Dot} (h : goodB d = true) : dotX d = decL d.1.toNat ++ [58] ++ decL d.2.toNat := by
  unfold dotX textL
  rw [dot_right h, if_pos rfl, if_neg (by simp)]
  show spc [runW (d.1, d.2, d.2)] = _
  have : runW (d.1, d.2, d.2) = decL d.1.toNat ++ [58] ++ decL d.2.toNat := by
    unfold runW; dsimp only
    rw [if_neg (Int.lt_irrefl _), List.append_nil]
  rw [this]
  simp [spc, spT]
theorem text_okB (c : List Run) : okB (textL c) ∧ (93 : Int) ∉ textL c ∧ (91 : Int) ∉ textL c := by
  unfold textL
  split
  · split
    · exact ⟨fun c hc => by rcases List.mem_singleton.1 hc with rfl; omega, by decide, by decide⟩
    · have hfree : ∀ z : Int, isD z = false → z ≠ 58 → z ≠ 45 → z ≠ 32 → z ∉ spc (c.map runW) := fun z h1 h2 h3 h4 hm => by
        have hr : ∀ r : Run, z ∉ runW r := fun r hz => by
          unfold runW at hz
          simp only [List.mem_append, List.mem_singleton] at hz
          rcases hz with ((hz | hz) | hz) | hz
          · exact dec_free h1 hz
          · exact h2 hz
          · exact dec_free h1 hz
          · split at hz
            · simp only [List.mem_append, List.mem_singleton] at hz
              rcases hz with hz | hz
              · exact h3 hz
              · exact dec_free h1 hz
            · cases hz
        cases hc : c.map runW with
        | nil => rw [hc] at hm; cases hm
        | cons w ws =>
          rw [hc] at hm
          have hall : ∀ v, v ∈ w :: ws → z ∉ v := fun v hv => by
            rw [← hc] at hv
            obtain ⟨r, _, rfl⟩ := List.mem_map.1 hv
            exact hr r
          rcases List.mem_append.1 hm with hm | hm
          · exact hall w (List.mem_cons_self ..) hm
          · unfold spT at hm
            obtain ⟨u, hu, hzu⟩ := List.mem_flatten.1 hm
            obtain ⟨v, hv, rfl⟩ := List.mem_map.1 hu
            rcases List.mem_cons.1 hzu with rfl | hzu
            · exact h4 rfl
            · exact hall v (List.mem_cons_of_mem _ hv) hzu
      exact ⟨okB_spc _ (fun w hw => by obtain ⟨r, _, rfl⟩ := List.mem_map.1 hw; exact okB_runW r), hfree 93 (by decide) (by decide) (by decide) (by decide), hfree 91 (by decide) (by decide) (by decide) (by decide)⟩
  · exact ⟨fun c hc => (nomatch hc), by simp, by simp⟩
theorem dotX_free {d : Dot} : okB (dotX d) ∧ (91 : Int) ∉ dotX d := ⟨(text_okB _).1, (text_okB _).2.2⟩

def vHead (s : ByteArray) : ByteArray := (cutS s (strOfNums [32, 91])).1
def vRest (s : ByteArray) : ByteArray := (cutS s (strOfNums [32, 91])).2.1
def vPast (s : ByteArray) : ByteArray := (cutS (vRest s) (strOfNums [93, 32])).1
def vVal (s : ByteArray) : ByteArray := (cutS (vRest s) (strOfNums [93, 32])).2.1
def vKey (s : ByteArray) : ByteArray := (cutS (vHead s) (strOfNums [32])).1
def vDot (s : ByteArray) : ByteArray := (cutS (vHead s) (strOfNums [32])).2.1
def goneS : ByteArray := strOfNums [103, 111, 110, 101]
def dotO (l : List Run) : Dot := match l with | [] => (0, 0) | r :: _ => (r.1, r.2.1)
open Classical in
noncomputable def vItem (s : ByteArray) : Item :=
  (strOfNums (unhexL (bytesL (vKey s))), dotO (parsedL (vDot s)), parsedL (vPast s), decide (vVal s = goneS), if vVal s = goneS ∨ vVal s = strOfNums [46] then [] else unhexL (bytesL (vVal s)))
theorem valW_str {b : Bool} {v : List Int} (hv : okB v) (hb : b = true → v = []) : (strOfNums (valW b v) = goneS ↔ b = true) ∧ (b = false → (strOfNums (valW b v) = strOfNums [46] ↔ v = [])) ∧ (b = false → v ≠ [] → unhexL (bytesL (strOfNums (valW b v))) = v) := by
  have hgl : okB [103, 111, 110, 101] := fun c hc => by simp at hc; omega
  have hd : okB [46] := fun c hc => by rcases List.mem_singleton.1 hc with rfl; omega
  have hx := okB_hex v hv
  cases b with
  | true => exact ⟨⟨fun _ => rfl, fun _ => rfl⟩, fun h => Bool.noConfusion h, fun h => Bool.noConfusion h⟩
  | false =>
    by_cases h0 : v = []
    · subst h0
      refine ⟨⟨fun h => ?_, fun h => by cases h⟩, fun _ => ⟨fun _ => rfl, fun _ => rfl⟩, fun _ h => absurd rfl h⟩
      have h : strOfNums [46] = strOfNums [103, 111, 110, 101] := h
      have := congrArg bytesL h
      rw [bytes_str hd, bytes_str hgl] at this
      simp at this
    · have e : valW false v = hexL v := by unfold valW; rw [if_neg (by simp), if_neg h0]
      rw [e]
      refine ⟨⟨fun h => ?_, fun h => by cases h⟩, fun _ => ⟨fun h => ?_, fun h => absurd h h0⟩, fun _ _ => by rw [bytes_str hx, (unhex_hex hv).1]⟩
      · have := congrArg bytesL h
        unfold goneS at this
        rw [bytes_str hx, bytes_str hgl] at this
        have h3 : isH 103 = true := List.all_eq_true.1 (unhex_hex hv).2 103 (by rw [this]; simp)
        exact absurd h3 (by decide)
      · have := congrArg bytesL h
        rw [bytes_str hx, bytes_str hd] at this
        have h3 : isH 46 = true := List.all_eq_true.1 (unhex_hex hv).2 46 (by rw [this]; simp)
        exact absurd h3 (by decide)
open Classical in
theorem item_read {x : Item} (h : itemB x = true) (hv : okB x.2.2.2.2) : vItem (strOfNums (itemTx x)) = x := by
  obtain ⟨key, ⟨m, n⟩, c, b, v⟩ := x
  obtain ⟨⟨k1, k2⟩, k3, k4, ⟨k5, k6⟩, ⟨k7, k8⟩, k9, k10⟩ := item_ok h
  have hg : goodB (m, n) = true := decide_eq_true ⟨k5, k6, k7, k8⟩
  have hkb := bytesL_ok key
  obtain ⟨t1, t2, t3⟩ := text_okB c
  obtain ⟨d1, d2⟩ := dotX_free (d := (m, n))
  have hhx := okB_hex _ hkb
  have o32 : okB [32] := fun c hc => by rcases List.mem_singleton.1 hc with rfl; omega
  have hhead : okB (hexL (bytesL key) ++ ([32] ++ dotX (m, n))) := okB_app hhx (okB_app o32 d1)
  have hfree : (91 : Int) ∉ hexL (bytesL key) ++ ([32] ++ dotX (m, n)) := by
    simp only [List.mem_append, List.mem_singleton, not_or]
    exact ⟨hex_free hkb (by decide), by decide, d2⟩
  have e0 : itemTx (key, (m, n), c, b, v) = (hexL (bytesL key) ++ ([32] ++ dotX (m, n))) ++ [32, 91] ++ (textL c ++ [93, 32] ++ valW b v) := by
    unfold itemTx; simp only [List.append_assoc]
  have c1 := cut_two (x := 32) (y := 91) (b := textL c ++ [93, 32] ++ valW b v) hhead (by omega) (by omega) (.inr ⟨hfree, by decide⟩)
  have c2 := cut_two (x := 93) (y := 32) (b := valW b v) t1 (by omega) (by omega) (.inl t2)
  have c3 := cut_at (c := 32) (b := dotX (m, n)) hhx (by omega) (by omega) (hex_free hkb (by decide))
  rw [List.append_assoc] at c3
  obtain ⟨w1, w2, w3⟩ := valW_str (b := b) hv (fun hb => List.length_eq_zero_iff.1 (k4 hb))
  have hp := (parsed_text k9).2
  have hd := (parsed_text (dot_right hg)).2
  have hVal : vVal (strOfNums (itemTx (key, (m, n), c, b, v))) = strOfNums (valW b v) := by unfold vVal vRest; rw [e0, c1]; dsimp only; rw [c2]
  have hPast : vPast (strOfNums (itemTx (key, (m, n), c, b, v))) = strOfNums (textL c) := by unfold vPast vRest; rw [e0, c1]; dsimp only; rw [c2]
  have hKey : vKey (strOfNums (itemTx (key, (m, n), c, b, v))) = strOfNums (hexL (bytesL key)) := by unfold vKey vHead; rw [e0, c1]; dsimp only; rw [c3]
  have hDot : vDot (strOfNums (itemTx (key, (m, n), c, b, v))) = strOfNums (dotX (m, n)) := by unfold vDot vHead; rw [e0, c1]; dsimp only; rw [c3]
  unfold vItem
  rw [hVal, hPast, hKey, hDot, bytes_str hhx, (unhex_hex hkb).1, str_bytesL, hp]
  have hd2 : dotO (parsedL (strOfNums (dotX (m, n)))) = (m, n) := by rw [show dotX (m, n) = textL [(m, n, n)] from rfl, hd]; rfl
  rw [hd2]
  cases b with
  | true =>
    have hv0 : v = [] := List.length_eq_zero_iff.1 (k4 rfl)
    rw [if_pos (.inl (w1.2 rfl)), decide_eq_true (w1.2 rfl), hv0]
  | false =>
    have hn : ¬ strOfNums (valW false v) = goneS := fun hh => by have := w1.1 hh; cases this
    rw [decide_eq_false hn]
    by_cases h0 : v = []
    · rw [if_pos (.inr ((w2 rfl).2 h0)), h0]
    · rw [if_neg (by
        rintro (hh | hh)
        · exact hn hh
        · exact h0 ((w2 rfl).1 hh)), w3 rfl h0]
/-- Is a text the text of the item that is read out of it? -/
def vOk (s : ByteArray) : Prop := ¬ s = ⟨#[]⟩ ∧ strOfNums (textI (vItem s)) = s
open Classical in
noncomputable def vB (s : ByteArray) : Bool := decide (vOk s)
open Classical in
noncomputable def vI (s : ByteArray) : Item := if vOk s then vItem s else zeroI
theorem itemTx_ne (x : Item) : itemTx x ≠ [] := fun h => by
  have := congrArg List.length h
  simp only [itemTx, List.length_append, List.length_cons, List.length_nil] at this
  omega
theorem okB_tx {x : Item} (hv : okB x.2.2.2.2) : okB (itemTx x) := by
  have o : ∀ l : List Int, (l.all fun c => decide (0 ≤ c ∧ c < 256)) = true → okB l := fun l h c hc => of_decide_eq_true (List.all_eq_true.1 h c hc)
  unfold itemTx
  refine okB_app (okB_hex _ (bytesL_ok _)) (okB_app (o _ (by decide)) (okB_app dotX_free.1 (okB_app (o _ (by decide)) (okB_app (text_okB _).1 (okB_app (o _ (by decide)) ?_)))))
  unfold valW
  split
  · exact o _ (by decide)
  · split
    · exact o _ (by decide)
    · exact okB_hex _ hv
theorem vItem_okB (s : ByteArray) : okB (vItem s).2.2.2.2 := by
  unfold vItem
  dsimp only
  split
  · exact fun c hc => nomatch hc
  · exact unhexL_ok _
/-- A text is read iff it is the text of a right item. -/
theorem vOk_iff {s : ByteArray} {x : Item} (h : itemB x = true) (hv : okB x.2.2.2.2) (he : strOfNums (itemTx x) = s) : vOk s ∧ vItem s = x := by
  have e := item_read h hv
  rw [he] at e
  refine ⟨⟨fun h0 => ?_, ?_⟩, e⟩
  · have := congrArg bytesL (he.trans h0)
    rw [bytes_str (okB_tx hv)] at this
    exact itemTx_ne x this
  · rw [e]
    unfold textI
    rw [h, if_pos rfl]; exact he
theorem vOk_item {s : ByteArray} (h : vOk s) : itemB (vItem s) = true ∧ strOfNums (itemTx (vItem s)) = s := by
  obtain ⟨h1, h2⟩ := h
  unfold textI at h2
  cases hi : itemB (vItem s) with
  | true => rw [hi, if_pos rfl] at h2; exact ⟨rfl, h2⟩
  | false =>
    rw [hi, if_neg (by simp)] at h2
    exact absurd h2.symm h1
end Go.Proofs.YthmbdjhlfieldaaGreatDoor

set_option linter.unusedVariables false
set_option linter.unusedSimpArgs false
set_option maxRecDepth 100000
namespace Go.Proofs.YthmbdjhlfieldaaGreatDoor
open Go.Eng
theorem splitL_both (c : Int) : ∀ (a b : List Int), splitL c (a ++ c :: b) = splitL c a ++ splitL c b
  | [], b => by
    have := splitL_app (c := c) [] b (by simp)
    simpa [splitL] using this
  | x :: a, b => by
    have ih := splitL_both c a b
    have hp := splitL_len c a
    by_cases h : x = c
    · subst h
      have h1 := splitL_app (c := x) [] (a ++ x :: b) (by simp)
      have h2 := splitL_app (c := x) [] a (by simp)
      rw [List.nil_append] at h1 h2
      rw [List.cons_append, h1, h2, ih, List.cons_append]
    · have hl : splitL c (a ++ c :: b) ≠ [] := by have := splitL_len c (a ++ c :: b); intro e; rw [e] at this; simp at this
      rw [List.cons_append]
      cases hs : splitL c a with
      | nil => rw [hs] at hp; simp at hp
      | cons w ws =>
        rw [hs, List.cons_append] at ih
        rw [splitL_cons_ne h ih, splitL_cons_ne h hs, List.cons_append]
def rPast (l : List Int) : List Int := spc (((splitL 32 l).drop 2).dropLast)
def rMid (l : List Int) : List Int := (rPast l).tail.dropLast
def rKey (l : List Int) : List Int := (splitL 32 l).headD []
def rDot (l : List Int) : List Int := (splitL 32 l).getD 1 []
def rVal (l : List Int) : List Int := (splitL 32 l).getLastD []
def goneL : List Int := [103, 111, 110, 101]
open Classical in
noncomputable def rItem (l : List Int) : Item :=
  (strOfNums (unhexL (rKey l)), dotO (parsedL (strOfNums (rDot l))), parsedL (strOfNums (rMid l)), decide (rVal l = goneL), if rVal l = goneL ∨ rVal l = [46] then [] else unhexL (rVal l))
structure ROk (l : List Int) : Prop where
  n : 4 ≤ (splitL 32 l).length
  p : 2 ≤ (rPast l).length ∧ (rPast l).head? = some 91 ∧ (rPast l).getLast? = some 93
  k : unhexOk (rKey l) = true
  d : parsedB (strOfNums (rDot l)) = true
  c : parsedB (strOfNums (rMid l)) = true
  r : ∃ r, parsedL (strOfNums (rDot l)) = [r] ∧ r.2.1 = r.2.2
  v : rVal l = goneL ∨ rVal l = [46] ∨ (unhexOk (rVal l) = true ∧ unhexL (rVal l) ≠ [])
  i : itemB (rItem l) = true
open Classical in
theorem parsed_back {t : List Int} (ht : okB t) (h : parsedB (strOfNums t) = true) : textL (parsedL (strOfNums t)) = t := by
  have hk : parsedOk (strOfNums t) := of_decide_eq_true h
  by_cases h45 : strOfNums t = ⟨#[45]⟩
  · have e : parsedL (strOfNums t) = [] := if_pos h45
    rw [e]
    have := congrArg bytesL h45
    rw [bytes_str ht] at this
    rw [this]; rfl
  · rcases hk with hk | ⟨h1, h2⟩
    · exact absurd hk h45
    · have e := parsedL_yes h45 (.inr ⟨h1, h2⟩)
      rw [e]
      have := congrArg bytesL h2
      rwa [bytes_str (text_okB _).1, bytes_str ht] at this
theorem four {α : Type} : ∀ {w : List α}, 4 ≤ w.length → ∃ a b m v, w = a :: b :: (m ++ [v]) ∧ m ≠ []
  | a :: b :: rest, h => by
    rcases List.eq_nil_or_concat rest with rfl | ⟨m, v, rfl⟩
    · simp at h
    · rw [List.concat_eq_append] at *
      refine ⟨a, b, m, v, rfl, fun e => ?_⟩
      rw [e] at h; simp at h
  | [], h => by simp at h
  | [_], h => by simp at h
theorem spc_two (a b : List Int) (m : List (List Int)) (v : List Int) (hm : m ≠ []) : spc (a :: b :: (m ++ [v])) = a ++ ([32] ++ (b ++ ([32] ++ (spc m ++ ([32] ++ v))))) := by
  cases m with
  | nil => exact absurd rfl hm
  | cons x m => simp [spc, spT]
open Classical in
theorem ref_to {l : List Int} (hl : okB l) (h : ROk l) : itemTx (rItem l) = l := by
  obtain ⟨h4, ⟨p1, p2, p3⟩, hk, hd, hc, ⟨r, hr1, hr2⟩, hv, hi⟩ := h
  obtain ⟨a, b, m, v, hw, hm⟩ := four h4
  have hsp : spc (splitL 32 l) = l := spc_split l
  have hmem : ∀ t, t ∈ splitL 32 l → okB t := fun t ht c hc => hl c ((splitL_mem 32 l t ht).2 c hc).1
  have eK : rKey l = a := by unfold rKey; rw [hw]; rfl
  have eD : rDot l = b := by unfold rDot; rw [hw]; rfl
  have eV : rVal l = v := by
    unfold rVal; rw [hw, show ∀ (a b : List Int) m v, a :: b :: (m ++ [v]) = (a :: b :: m) ++ [v] from fun _ _ _ _ => rfl, List.getLastD_concat]
  have eP : rPast l = spc m := by
    unfold rPast; rw [hw]
    simp
  have oa : okB a := hmem a (by rw [hw]; simp)
  have ob : okB b := hmem b (by rw [hw]; simp)
  have ov : okB v := hmem v (by rw [hw]; simp)
  have om : okB (spc m) := okB_spc m (fun w hw2 => hmem w (by rw [hw]; simp [hw2]))
  rw [eP] at p1 p2 p3
  have hpast : spc m = [91] ++ (rMid l ++ [93]) := by
    unfold rMid
    rw [eP]
    rcases hs : spc m with _ | ⟨x, rest⟩
    · rw [hs] at p1; simp at p1
    · rw [hs] at p2 p3 p1
      obtain rfl : x = 91 := by simpa using p2
      rcases List.eq_nil_or_concat rest with rfl | ⟨q, z, rfl⟩
      · simp at p1
      · rw [List.concat_eq_append] at *
        have hz : z = 93 := by
          rw [← List.cons_append, List.getLast?_append] at p3
          simpa using p3
        subst hz
        simp
  have omid : okB (rMid l) := fun c hc => om c (by rw [hpast]; simp [hc])
  rw [eK] at hk
  rw [eD] at hd hr1
  rw [eV] at hv
  have hk2 : a.length % 2 = 0 ∧ a.all isH = true := by
    unfold unhexOk at hk
    simp only [Bool.and_eq_true, decide_eq_true_eq] at hk
    exact hk
  have ehex : hexL (unhexL a) = a := hex_unhex (a.length / 2) a (by omega) hk2.2
  have etxt : textL [r] = b := by rw [← hr1]; exact parsed_back ob hd
  have emid : textL (parsedL (strOfNums (rMid l))) = rMid l := parsed_back omid hc
  have edot : dotX (dotO [r]) = b := by
    unfold dotX
    show textL [(r.1, r.2.1, r.2.1)] = b
    have : (r.1, r.2.1, r.2.1) = r := Prod.ext rfl (Prod.ext rfl hr2)
    rw [this]; exact etxt
  have eval : valW (decide (v = goneL)) (if v = goneL ∨ v = [46] then [] else unhexL v) = v := by
    unfold valW
    by_cases hg : v = goneL
    · rw [decide_eq_true hg, if_pos rfl, hg]; rfl
    · rw [decide_eq_false hg, if_neg (by simp)]
      by_cases hd : v = [46]
      · rw [if_pos (show v = goneL ∨ v = [46] from .inr hd), if_pos rfl, hd]
      · have hn : ¬ (v = goneL ∨ v = [46]) := by
          rintro (h | h)
          · exact hg h
          · exact hd h
        rw [if_neg hn]
        rcases hv with hv | hv | ⟨hv1, hv2⟩
        · exact absurd hv hg
        · exact absurd hv hd
        · rw [if_neg hv2]
          have hv3 : v.length % 2 = 0 ∧ v.all isH = true := by
            unfold unhexOk at hv1
            simp only [Bool.and_eq_true, decide_eq_true_eq] at hv1
            exact hv1
          exact hex_unhex (v.length / 2) v (by omega) hv3.2
  have hx : itemTx (rItem l) = hexL (unhexL a) ++ ([32] ++ (dotX (dotO [r]) ++ ([32, 91] ++ (textL (parsedL (strOfNums (rMid l))) ++ ([93, 32] ++ valW (decide (v = goneL)) (if v = goneL ∨ v = [46] then [] else unhexL v)))))) := by
    unfold itemTx rItem
    dsimp only
    rw [eK, eD, eV, hr1, bytes_str (unhexL_ok a)]
  rw [hx, ehex, edot, emid, eval]
  conv => rhs; rw [← hsp, hw, spc_two a b m v hm, hpast]
  simp
theorem text_free32 {d : Dot} (h : goodB d = true) : (32 : Int) ∉ dotX d := by
  rw [dotX_dec h]
  simp only [List.mem_append, List.mem_singleton, not_or]
  exact ⟨⟨dec_free (by decide), by decide⟩, dec_free (by decide)⟩
open Classical in
theorem ref_of {x : Item} (h : itemB x = true) (hv : okB x.2.2.2.2) : ROk (itemTx x) ∧ rItem (itemTx x) = x := by
  obtain ⟨key, ⟨m, n⟩, c, b, v⟩ := x
  have hb := h
  obtain ⟨⟨k1, k2⟩, k3, k4, ⟨k5, k6⟩, ⟨k7, k8⟩, k9, k10⟩ := item_ok h
  have hg : goodB (m, n) = true := decide_eq_true ⟨k5, k6, k7, k8⟩
  have hkb := bytesL_ok key
  have hx0 := unhex_hex hkb
  have hVf : (32 : Int) ∉ valW b v := by
    unfold valW
    split
    · decide
    · split
      · decide
      · exact hex_free hv (by decide)
  have hA : (32 : Int) ∉ hexL (bytesL key) := hex_free hkb (by decide)
  have hB : (32 : Int) ∉ dotX (m, n) := text_free32 hg
  have e0 : itemTx (key, (m, n), c, b, v) = hexL (bytesL key) ++ 32 :: (dotX (m, n) ++ 32 :: (([91] ++ (textL c ++ [93])) ++ 32 :: valW b v)) := by unfold itemTx; simp
  have hw : splitL 32 (itemTx (key, (m, n), c, b, v)) = hexL (bytesL key) :: dotX (m, n) :: (splitL 32 ([91] ++ (textL c ++ [93])) ++ [valW b v]) := by
    rw [e0, splitL_app _ _ hA, splitL_app _ _ hB, splitL_both, splitL_free hVf]
  have hsl := splitL_len 32 ([91] ++ (textL c ++ [93]))
  have eK : rKey (itemTx (key, (m, n), c, b, v)) = hexL (bytesL key) := by unfold rKey; rw [hw]; rfl
  have eD : rDot (itemTx (key, (m, n), c, b, v)) = dotX (m, n) := by unfold rDot; rw [hw]; rfl
  have eV : rVal (itemTx (key, (m, n), c, b, v)) = valW b v := by
    unfold rVal; rw [hw, show ∀ (a b : List Int) m v, a :: b :: (m ++ [v]) = (a :: b :: m) ++ [v] from fun _ _ _ _ => rfl, List.getLastD_concat]
  have eP : rPast (itemTx (key, (m, n), c, b, v)) = [91] ++ (textL c ++ [93]) := by
    unfold rPast; rw [hw]
    have : ((hexL (bytesL key) :: dotX (m, n) :: (splitL 32 ([91] ++ (textL c ++ [93])) ++ [valW b v])).drop 2).dropLast = splitL 32 ([91] ++ (textL c ++ [93])) := by simp
    rw [this, spc_split]
  have eM : rMid (itemTx (key, (m, n), c, b, v)) = textL c := by unfold rMid; rw [eP]; simp
  have hp := parsed_text k9
  have hd := parsed_text (dot_right hg)
  have hd1 : parsedL (strOfNums (dotX (m, n))) = [(m, n, n)] := hd.2
  have hd2 : parsedB (strOfNums (dotX (m, n))) = true := hd.1
  have o32 : okB (valW b v) := by
    unfold valW
    split
    · intro c hc; simp at hc; omega
    · split
      · intro c hc; simp at hc; omega
      · exact okB_hex _ hv
  obtain ⟨w1, w2, w3⟩ := valW_str (b := b) hv (fun hb => List.length_eq_zero_iff.1 (k4 hb))
  have w1' : valW b v = goneL ↔ b = true := by
    rw [← w1]
    constructor
    · intro e; rw [e]; rfl
    · intro e
      have := congrArg bytesL e
      rw [bytes_str o32] at this
      rw [this]; rfl
  have w2' : b = false → (valW b v = [46] ↔ v = []) := fun hb => by
    rw [← w2 hb]
    constructor
    · intro e; rw [e]
    · intro e
      have := congrArg bytesL e
      rwa [bytes_str o32, bytes_str (fun c hc => by rcases List.mem_singleton.1 hc with rfl; omega)] at this
  have hunk : unhexOk (hexL (bytesL key)) = true := by
    unfold unhexOk
    rw [hx0.2, hexL_len]; simp
  have hit : rItem (itemTx (key, (m, n), c, b, v)) = (key, (m, n), c, b, v) := by
    unfold rItem
    rw [eK, eD, eV, eM, hx0.1, str_bytesL, hd1, hp.2]
    cases b with
    | true =>
      have hv0 : v = [] := List.length_eq_zero_iff.1 (k4 rfl)
      rw [if_pos (.inl (w1'.2 rfl)), decide_eq_true (w1'.2 rfl), hv0]; rfl
    | false =>
      have hn : ¬ valW false v = goneL := fun hh => by have := w1'.1 hh; cases this
      rw [decide_eq_false hn]
      by_cases h0 : v = []
      · rw [if_pos (.inr ((w2' rfl).2 h0)), h0]; rfl
      · rw [if_neg (by
          rintro (hh | hh)
          · exact hn hh
          · exact h0 ((w2' rfl).1 hh))]
        have := w3 rfl h0
        rw [bytes_str o32] at this
        rw [this]; rfl
  refine ⟨⟨?_, ?_, by rw [eK]; exact hunk, by rw [eD]; exact hd2, by rw [eM]; exact hp.1, ⟨(m, n, n), by rw [eD]; exact hd1, rfl⟩, ?_, by rw [hit]; exact h⟩, hit⟩
  · rw [hw]; simp only [List.length_cons, List.length_append, List.length_nil]; omega
  · rw [eP]
    exact ⟨by simp, rfl, by rw [List.getLast?_append]; simp [List.getLast?_append]⟩
  · rw [eV]
    cases b with
    | true => exact .inl (w1'.2 rfl)
    | false =>
      by_cases h0 : v = []
      · exact .inr (.inl ((w2' rfl).2 h0))
      · refine .inr (.inr ?_)
        have e : valW false v = hexL v := by unfold valW; rw [if_neg (by simp), if_neg h0]
        rw [e, (unhex_hex hv).1]
        refine ⟨?_, h0⟩
        unfold unhexOk
        rw [(unhex_hex hv).2, hexL_len]; simp
theorem rItem_okB (l : List Int) : okB (rItem l).2.2.2.2 := by
  unfold rItem
  dsimp only
  split
  · exact fun c hc => nomatch hc
  · exact unhexL_ok _
/-- The two readings are one. -/
theorem ref_same {s : ByteArray} : (ROk (bytesL s) ↔ vOk s) ∧ (vOk s → rItem (bytesL s) = vItem s) := by
  have too : ROk (bytesL s) → vOk s ∧ vItem s = rItem (bytesL s) := fun h => by
    have e := ref_to (bytesL_ok s) h
    have e2 : strOfNums (itemTx (rItem (bytesL s))) = s := by rw [e, str_bytesL]
    exact vOk_iff h.i (rItem_okB _) e2
  have frm : vOk s → ROk (bytesL s) ∧ rItem (bytesL s) = vItem s := fun h => by
    obtain ⟨h1, h2⟩ := vOk_item h
    have e : bytesL s = itemTx (vItem s) := by
      have := congrArg bytesL h2
      rw [bytes_str (okB_tx (vItem_okB s))] at this
      exact this.symm
    rw [e]
    exact ref_of h1 (vItem_okB s)
  exact ⟨⟨fun h => (too h).1, fun h => (frm h).1⟩, fun h => (frm h).2⟩
end Go.Proofs.YthmbdjhlfieldaaGreatDoor

set_option linter.unusedVariables false
set_option linter.unusedSimpArgs false
set_option maxRecDepth 100000
set_option maxHeartbeats 4000000
namespace Go.Proofs.YthmbdjhlfieldaaGreatDoor
open Go.Eng
@[reducible] def itextC : Ctr := {
  X := Item
  Y := Unit
  args := fun x => [itemV x]
  rw := fun _ => []
  side := fun x => itemZ x
  val := fun _ => ()
  ens := fun _ _ => True
  res := fun x _ => .v (.string (strOfNums (textI x)))
  out := fun x _ => [] }
theorem knownIt : Known Tryz.prog (gOf [(14, irightU), (43, hexesV), (45, dtextC), (44, joinC)]) :=
  known_cons ⟨iright_re iright_ok, Tryz.call14⟩ (known_cons ⟨hexes_ok, Tryz.call43⟩ (known_cons ⟨dtext_ok, Tryz.call45⟩ (known_cons ⟨sjoin_ok, Tryz.call44⟩ (known_nil _))))
theorem text_spc (x : Item) : spc [hexL (bytesL x.1), dotX x.2.1, [91] ++ textL x.2.2.1 ++ [93], valW x.2.2.2.1 x.2.2.2.2] = itemTx x := by
  unfold itemTx; simp [spc, spT]
theorem itext_ok : itextC.ok Tryz.prog 11 := by
  refine ok_of_vc (An := fun _ => anOf []) knownIt mo Tryz.func11 (by kernel_rfl) (by kernel_rfl) (fun _ _ => trivial) (fun (x : Item) hs => ?_)
  have hT : textI x = if itemB x then itemTx x else [] := rfl
  have hsp := text_spc x
  cases hi : itemB x with
  | false =>
    rw [hi, if_neg (by simp)] at hT
    have hnil : strOfNums (textI x) = ⟨#[]⟩ := by rw [hT]; rfl
    obtain ⟨key, ⟨m, n⟩, c, b, v⟩ := x
    obtain ⟨hs, hv⟩ := hs
    have lm := And.intro hi hnil
    have ck : Hc irightU (key, (m, n), c, b, v) True := .mk trivial
    exact G1
  | true =>
    rw [hi, if_pos rfl] at hT
    obtain ⟨key, ⟨m, n⟩, c, b, v⟩ := x
    obtain ⟨hs, hv⟩ := hs
    obtain ⟨⟨k1, k2⟩, k3, k4, ⟨k5, k6⟩, ⟨k7, k8⟩, k9, k10⟩ := item_ok hi
    have hv : okB v := hv
    have hkb := bytesL_ok key
    have hkl := bytesL_length key
    have hxl := hexL_len (bytesL key)
    have hvl := hexL_len v
    have htx : (textL c).length ≤ 100000 := by
      by_cases h0 : c = []
      · subst h0
        show (1 : Nat) ≤ _; omega
      · have ht : textL c = spc (c.map runW) := by unfold textL; rw [k9, if_neg h0]; rfl
        rw [ht]
        have := spc_len (c.map runW) (fun w hw => by obtain ⟨r, hr, rfl⟩ := List.mem_map.1 hw; exact runW_len ((right_iff.1 k9).all r hr))
        rw [List.length_map] at this
        omega
    have hg : goodB (m, n) = true := decide_eq_true ⟨k5, k6, k7, k8⟩
    have hdl : (dotX (m, n)).length ≤ 100 := by
      have h1 := decL_len 12 m.toNat (by omega)
      have h2 := decL_len 12 n.toNat (by omega)
      rw [dotX_dec hg]
      simp only [List.length_append, List.length_singleton]
      omega
    have hz := str_size (textL c)
    have b1 : (⟨#[91]⟩ : ByteArray) ++ strOfNums (textL c) = strOfNums ([91] ++ textL c) := by rw [← str_cat]; rfl
    have b2 : strOfNums ([91] ++ textL c) ++ (⟨#[93]⟩ : ByteArray) = strOfNums ([91] ++ textL c ++ [93]) := by rw [← str_cat ([91] ++ textL c) [93]]; rfl
    have b3 : (strOfNums ([91] ++ textL c)).size = (textL c).length + 1 := by rw [str_size]; simp
    have hj : ∀ D : ByteArray, D = strOfNums (valW b v) → joinS [strOfNums (hexL (bytesL key)), strOfNums (textL [(m, n, n)]), strOfNums ([91] ++ textL c ++ [93]), D] ⟨#[32]⟩ = strOfNums (itemTx (key, (m, n), c, b, v)) := fun D hD => by
      rw [hD, ← hsp]
      exact join_spc [hexL (bytesL key), dotX (m, n), [91] ++ textL c ++ [93], valW b v]
    have hvw : (valW b v).length ≤ 200 := by
      unfold valW
      split
      · simp
      · split
        · simp
        · omega
    have hjl : (strOfNums (itemTx (key, (m, n), c, b, v))).size ≤ 140737488355328 := by
      rw [str_size]
      simp only [itemTx, List.length_append, List.length_cons, List.length_nil]
      omega
    clear hsp hs
    cases b with
    | true =>
      have hj := hj ⟨#[103, 111, 110, 101]⟩ rfl
      have lm := And.intro hi (And.intro b1 (And.intro b2 (And.intro b3 hz)))
      have ck : Hc irightU (key, (m, n), c, true, v) (Hc hexesV v True) := .mk (.mk trivial)
      (refine Z ?_; repeat' (first | exact .intro | ((first | refine B1 (fun h => ?_) fun h => ?_ | refine B2 fun y he he' hy => ?_ | refine B3 fun y he hy => ?_ | refine B4 fun y hy => ?_ | refine B5 fun ck => ?_ | fail) <;> refine Z ?_)))
      refine Ask.mk ⟨hv, by show (v : List Int).length ≤ 100000000000; omega⟩ ?_
      have ck : Hc hexesV (bytesL key) True := .mk trivial
      (refine Z ?_; repeat' (first | exact .intro | ((first | refine B1 (fun h => ?_) fun h => ?_ | refine B2 fun y he he' hy => ?_ | refine B3 fun y he hy => ?_ | refine B4 fun y hy => ?_ | refine B5 fun ck => ?_ | fail) <;> refine Z ?_)))
      refine Ask.mk ⟨hkb, by show (bytesL key).length ≤ 100000000000; omega⟩ ?_
      have ck : Hc dtextC [(m, n, n)] (Hc dtextC c True) := .mk (.mk trivial)
      (refine Z ?_; repeat' (first | exact .intro | ((first | refine B1 (fun h => ?_) fun h => ?_ | refine B2 fun y he he' hy => ?_ | refine B3 fun y he hy => ?_ | refine B4 fun y hy => ?_ | refine B5 fun ck => ?_ | fail) <;> refine Z ?_)))
      refine Ask.mk (by show 1 + (strOfNums (textL c)).size ≤ 9223372036854775807; omega) ?_
      (refine Z ?_; repeat' (first | exact .intro | ((first | refine B1 (fun h => ?_) fun h => ?_ | refine B2 fun y he he' hy => ?_ | refine B3 fun y he hy => ?_ | refine B4 fun y hy => ?_ | refine B5 fun ck => ?_ | fail) <;> refine Z ?_)))
      refine Ask.mk (by rw [b1, b3]; show (textL c).length + 1 + 1 ≤ 9223372036854775807; omega) ?_
      (refine Z ?_; repeat' (first | exact .intro | ((first | refine B1 (fun h => ?_) fun h => ?_ | refine B2 fun y he he' hy => ?_ | refine B3 fun y he hy => ?_ | refine B4 fun y hy => ?_ | refine B5 fun ck => ?_ | fail) <;> refine Z ?_)))
      rw [b1, b2]
      refine CallP.mk (C := joinC) ⟨[strOfNums (hexL (bytesL key)), strOfNums (textL [(m, n, n)]), strOfNums ([91] ++ textL c ++ [93]), ⟨#[103, 111, 110, 101]⟩], ⟨#[32]⟩⟩ ?_
      (refine Zn ?_; repeat' (first | exact .intro | ((first | refine B1 (fun h => ?_) fun h => ?_ | refine B2 fun y he he' hy => ?_ | refine B3 fun y he hy => ?_ | refine B4 fun y hy => ?_ | refine B5 fun ck => ?_ | fail) <;> refine Zn ?_)))
      refine AskL.mk (by dsimp only [conj]; (repeat' apply And.intro) <;> rfl) ?_
      refine Ask.mk ⟨by show 4 ≤ 140737488355328; omega, by dsimp only; rw [hj]; exact hjl⟩ ?_
      (refine Zn ?_; repeat' (first | exact .intro | ((first | refine B1 (fun h => ?_) fun h => ?_ | refine B2 fun y he he' hy => ?_ | refine B3 fun y he hy => ?_ | refine B4 fun y hy => ?_ | refine B5 fun ck => ?_ | fail) <;> refine Zn ?_)))
      refine AskL.mk ?_ trivial
      dsimp only [conj]
      rw [hj, hT]
    | false =>
      by_cases h0 : v = []
      · have hl0 : v.length = 0 := by rw [h0]; rfl
        have hj := hj ⟨#[46]⟩ (by unfold valW; rw [if_neg (by simp), if_pos h0]; rfl)
        have lm := And.intro hi (And.intro b1 (And.intro b2 (And.intro b3 hz)))
        have ck : Hc irightU (key, (m, n), c, false, v) (Hc hexesV v True) := .mk (.mk trivial)
        (refine Z ?_; repeat' (first | exact .intro | ((first | refine B1 (fun h => ?_) fun h => ?_ | refine B2 fun y he he' hy => ?_ | refine B3 fun y he hy => ?_ | refine B4 fun y hy => ?_ | refine B5 fun ck => ?_ | fail) <;> refine Z ?_)))
        refine Ask.mk ⟨hv, by show (v : List Int).length ≤ 100000000000; omega⟩ ?_
        have ck : Hc hexesV (bytesL key) True := .mk trivial
        (refine Z ?_; repeat' (first | exact .intro | ((first | refine B1 (fun h => ?_) fun h => ?_ | refine B2 fun y he he' hy => ?_ | refine B3 fun y he hy => ?_ | refine B4 fun y hy => ?_ | refine B5 fun ck => ?_ | fail) <;> refine Z ?_)))
        refine Ask.mk ⟨hkb, by show (bytesL key).length ≤ 100000000000; omega⟩ ?_
        have ck : Hc dtextC [(m, n, n)] (Hc dtextC c True) := .mk (.mk trivial)
        (refine Z ?_; repeat' (first | exact .intro | ((first | refine B1 (fun h => ?_) fun h => ?_ | refine B2 fun y he he' hy => ?_ | refine B3 fun y he hy => ?_ | refine B4 fun y hy => ?_ | refine B5 fun ck => ?_ | fail) <;> refine Z ?_)))
        refine Ask.mk (by show 1 + (strOfNums (textL c)).size ≤ 9223372036854775807; omega) ?_
        (refine Z ?_; repeat' (first | exact .intro | ((first | refine B1 (fun h => ?_) fun h => ?_ | refine B2 fun y he he' hy => ?_ | refine B3 fun y he hy => ?_ | refine B4 fun y hy => ?_ | refine B5 fun ck => ?_ | fail) <;> refine Z ?_)))
        refine Ask.mk (by rw [b1, b3]; show (textL c).length + 1 + 1 ≤ 9223372036854775807; omega) ?_
        (refine Z ?_; repeat' (first | exact .intro | ((first | refine B1 (fun h => ?_) fun h => ?_ | refine B2 fun y he he' hy => ?_ | refine B3 fun y he hy => ?_ | refine B4 fun y hy => ?_ | refine B5 fun ck => ?_ | fail) <;> refine Z ?_)))
        rw [b1, b2]
        refine CallP.mk (C := joinC) ⟨[strOfNums (hexL (bytesL key)), strOfNums (textL [(m, n, n)]), strOfNums ([91] ++ textL c ++ [93]), ⟨#[46]⟩], ⟨#[32]⟩⟩ ?_
        (refine Zn ?_; repeat' (first | exact .intro | ((first | refine B1 (fun h => ?_) fun h => ?_ | refine B2 fun y he he' hy => ?_ | refine B3 fun y he hy => ?_ | refine B4 fun y hy => ?_ | refine B5 fun ck => ?_ | fail) <;> refine Zn ?_)))
        refine AskL.mk (by dsimp only [conj]; (repeat' apply And.intro) <;> rfl) ?_
        refine Ask.mk ⟨by show 4 ≤ 140737488355328; omega, by dsimp only; rw [hj]; exact hjl⟩ ?_
        (refine Zn ?_; repeat' (first | exact .intro | ((first | refine B1 (fun h => ?_) fun h => ?_ | refine B2 fun y he he' hy => ?_ | refine B3 fun y he hy => ?_ | refine B4 fun y hy => ?_ | refine B5 fun ck => ?_ | fail) <;> refine Zn ?_)))
        refine AskL.mk ?_ trivial
        dsimp only [conj]
        rw [hj, hT]
      · have hvp : ¬ v.length = 0 := fun h => h0 (List.length_eq_zero_iff.1 h)
        have hj := hj (strOfNums (hexL v)) (by unfold valW; rw [if_neg (by simp), if_neg h0])
        have lm := And.intro hi (And.intro b1 (And.intro b2 (And.intro b3 hz)))
        have ck : Hc irightU (key, (m, n), c, false, v) (Hc hexesV v True) := .mk (.mk trivial)
        (refine Z ?_; repeat' (first | exact .intro | ((first | refine B1 (fun h => ?_) fun h => ?_ | refine B2 fun y he he' hy => ?_ | refine B3 fun y he hy => ?_ | refine B4 fun y hy => ?_ | refine B5 fun ck => ?_ | fail) <;> refine Z ?_)))
        refine Ask.mk ⟨hv, by show (v : List Int).length ≤ 100000000000; omega⟩ ?_
        have ck : Hc hexesV (bytesL key) True := .mk trivial
        (refine Z ?_; repeat' (first | exact .intro | ((first | refine B1 (fun h => ?_) fun h => ?_ | refine B2 fun y he he' hy => ?_ | refine B3 fun y he hy => ?_ | refine B4 fun y hy => ?_ | refine B5 fun ck => ?_ | fail) <;> refine Z ?_)))
        refine Ask.mk ⟨hkb, by show (bytesL key).length ≤ 100000000000; omega⟩ ?_
        have ck : Hc dtextC [(m, n, n)] (Hc dtextC c True) := .mk (.mk trivial)
        (refine Z ?_; repeat' (first | exact .intro | ((first | refine B1 (fun h => ?_) fun h => ?_ | refine B2 fun y he he' hy => ?_ | refine B3 fun y he hy => ?_ | refine B4 fun y hy => ?_ | refine B5 fun ck => ?_ | fail) <;> refine Z ?_)))
        refine Ask.mk (by show 1 + (strOfNums (textL c)).size ≤ 9223372036854775807; omega) ?_
        (refine Z ?_; repeat' (first | exact .intro | ((first | refine B1 (fun h => ?_) fun h => ?_ | refine B2 fun y he he' hy => ?_ | refine B3 fun y he hy => ?_ | refine B4 fun y hy => ?_ | refine B5 fun ck => ?_ | fail) <;> refine Z ?_)))
        refine Ask.mk (by rw [b1, b3]; show (textL c).length + 1 + 1 ≤ 9223372036854775807; omega) ?_
        (refine Z ?_; repeat' (first | exact .intro | ((first | refine B1 (fun h => ?_) fun h => ?_ | refine B2 fun y he he' hy => ?_ | refine B3 fun y he hy => ?_ | refine B4 fun y hy => ?_ | refine B5 fun ck => ?_ | fail) <;> refine Z ?_)))
        rw [b1, b2]
        refine CallP.mk (C := joinC) ⟨[strOfNums (hexL (bytesL key)), strOfNums (textL [(m, n, n)]), strOfNums ([91] ++ textL c ++ [93]), strOfNums (hexL v)], ⟨#[32]⟩⟩ ?_
        (refine Zn ?_; repeat' (first | exact .intro | ((first | refine B1 (fun h => ?_) fun h => ?_ | refine B2 fun y he he' hy => ?_ | refine B3 fun y he hy => ?_ | refine B4 fun y hy => ?_ | refine B5 fun ck => ?_ | fail) <;> refine Zn ?_)))
        refine AskL.mk (by dsimp only [conj]; (repeat' apply And.intro) <;> rfl) ?_
        refine Ask.mk ⟨by show 4 ≤ 140737488355328; omega, by dsimp only; rw [hj]; exact hjl⟩ ?_
        (refine Zn ?_; repeat' (first | exact .intro | ((first | refine B1 (fun h => ?_) fun h => ?_ | refine B2 fun y he he' hy => ?_ | refine B3 fun y he hy => ?_ | refine B4 fun y hy => ?_ | refine B5 fun ck => ?_ | fail) <;> refine Zn ?_)))
        refine AskL.mk ?_ trivial
        dsimp only [conj]
        rw [hj, hT]
end Go.Proofs.YthmbdjhlfieldaaGreatDoor

set_option linter.unusedVariables false
set_option linter.unusedSimpArgs false
set_option maxRecDepth 100000
set_option maxHeartbeats 4000000
namespace Go.Proofs.YthmbdjhlfieldaaGreatDoor
open Go.Eng
end Go.Proofs.YthmbdjhlfieldaaGreatDoor

set_option linter.unusedVariables false
set_option linter.unusedSimpArgs false
set_option maxRecDepth 100000
set_option maxHeartbeats 4000000
namespace Go.Proofs.YthmbdjhlfieldaaGreatDoor
open Go.Eng
theorem ritext_eq {key : ByteArray} {m n : Int} {c : List Run} {b : Bool} {v : List Int} (hg : goodB (m, n) = true) {V : ByteArray} (hV : V = strOfNums (valW b v)) :
    strOfNums (hexL (bytesL key)) ++ (⟨#[32]⟩ : ByteArray) ++ strOfNums (dotW (m, n)) ++ (⟨#[32, 91]⟩ : ByteArray) ++ strOfNums (textL c) ++ (⟨#[93, 32]⟩ : ByteArray) ++ V = strOfNums (itemTx (key, (m, n), c, b, v)) := by
  rw [hV, show (⟨#[32]⟩ : ByteArray) = strOfNums [32] from rfl, show (⟨#[32, 91]⟩ : ByteArray) = strOfNums [32, 91] from rfl, show (⟨#[93, 32]⟩ : ByteArray) = strOfNums [93, 32] from rfl]
  rw [str_cat, str_cat, str_cat, str_cat, str_cat, str_cat]
  congr 1
  unfold itemTx
  rw [dotX_dec hg]
  simp only [dotW, List.append_assoc]
theorem ritext_sz {K D P V : ByteArray} (h1 : K.size ≤ 100000) (h2 : D.size ≤ 100000) (h3 : P.size ≤ 100000) (h4 : V.size ≤ 100000) :
    (K.size + (⟨#[32]⟩ : ByteArray).size ≤ 9223372036854775807 ∧ (K ++ (⟨#[32]⟩ : ByteArray)).size + D.size ≤ 9223372036854775807) ∧
    ((K ++ (⟨#[32]⟩ : ByteArray) ++ D).size + (⟨#[32, 91]⟩ : ByteArray).size ≤ 9223372036854775807 ∧ (K ++ (⟨#[32]⟩ : ByteArray) ++ D ++ (⟨#[32, 91]⟩ : ByteArray)).size + P.size ≤ 9223372036854775807) ∧
    ((K ++ (⟨#[32]⟩ : ByteArray) ++ D ++ (⟨#[32, 91]⟩ : ByteArray) ++ P).size + (⟨#[93, 32]⟩ : ByteArray).size ≤ 9223372036854775807 ∧ (K ++ (⟨#[32]⟩ : ByteArray) ++ D ++ (⟨#[32, 91]⟩ : ByteArray) ++ P ++ (⟨#[93, 32]⟩ : ByteArray)).size + V.size ≤ 9223372036854775807) := by
  have e1 : (⟨#[32]⟩ : ByteArray).size = 1 := rfl
  have e2 : (⟨#[32, 91]⟩ : ByteArray).size = 2 := rfl
  have e3 : (⟨#[93, 32]⟩ : ByteArray).size = 2 := rfl
  simp only [ByteArray.size_append, e1, e2, e3]
  omega
theorem knownIu : Known Tryz.prog (gOf [(19, irightU), (27, rHexC), (46, rDotC), (47, dtextC)]) :=
  known_cons ⟨iright_re riright_ok, Tryz.call19⟩ (known_cons ⟨rHex_ok, Tryz.call27⟩ (known_cons ⟨rDot_ok, Tryz.call46⟩ (known_cons ⟨rdtext_ok, Tryz.call47⟩ (known_nil _))))
theorem ritext_ok : itextC.ok Tryz.prog 12 := by
  refine ok_of_vc (An := fun _ => anOf []) knownIu mo Tryz.func12 (by kernel_rfl) (by kernel_rfl) (fun _ _ => trivial) (fun (x : Item) hs => ?_)
  have hT : textI x = if itemB x then itemTx x else [] := rfl
  cases hi : itemB x with
  | false =>
    rw [hi, if_neg (by simp)] at hT
    have hnil : strOfNums (textI x) = ⟨#[]⟩ := by rw [hT]; rfl
    obtain ⟨key, ⟨m, n⟩, c, b, v⟩ := x
    obtain ⟨hs, hv⟩ := hs
    have lm := And.intro hi hnil
    have ck : Hc irightU (key, (m, n), c, b, v) True := .mk trivial
    exact G1
  | true =>
    rw [hi, if_pos rfl] at hT
    obtain ⟨key, ⟨m, n⟩, c, b, v⟩ := x
    obtain ⟨hs, hv⟩ := hs
    obtain ⟨⟨k1, k2⟩, k3, k4, ⟨k5, k6⟩, ⟨k7, k8⟩, k9, k10⟩ := item_ok hi
    have hv : okB v := hv
    have hkb := bytesL_ok key
    have hkl := bytesL_length key
    have hxl := hexL_len (bytesL key)
    have hvl := hexL_len v
    have htx : (textL c).length ≤ 100000 := by
      by_cases h0 : c = []
      · subst h0
        show (1 : Nat) ≤ _; omega
      · have ht : textL c = spc (c.map runW) := by unfold textL; rw [k9, if_neg h0]; rfl
        rw [ht]
        have := spc_len (c.map runW) (fun w hw => by obtain ⟨r, hr, rfl⟩ := List.mem_map.1 hw; exact runW_len ((right_iff.1 k9).all r hr))
        rw [List.length_map] at this
        omega
    have hg : goodB (m, n) = true := decide_eq_true ⟨k5, k6, k7, k8⟩
    have hdl : (dotW (m, n)).length ≤ 100 := by
      have h1 := decL_len 12 m.toNat (by omega)
      have h2 := decL_len 12 n.toNat (by omega)
      unfold dotW
      simp only [List.length_append, List.length_singleton]
      omega
    have hbv : bytesL (strOfNums v) = v := bytes_str hv
    have hvz : (strOfNums v).size ≤ 100000000000 := by rw [str_size]; omega
    have hkz : key.size ≤ 100000000000 := by omega
    have hz := fun (V : ByteArray) (h : V.size ≤ 100000) => ritext_sz (K := strOfNums (hexL (bytesL key))) (D := strOfNums (dotW (m, n))) (P := strOfNums (textL c)) (V := V) (by rw [str_size]; omega) (by rw [str_size]; omega) (by rw [str_size]; omega) h
    have hj := fun (V : ByteArray) (h : V = strOfNums (valW b v)) => ritext_eq (key := key) (c := c) hg h
    rw [← hT] at hj
    have hbe := str_beq (strOfNums (hexL (bytesL (strOfNums v)))) ⟨#[]⟩
    clear hs
    cases b with
    | true =>
      obtain ⟨⟨z1, z2⟩, ⟨z3, z4⟩, z5, z6⟩ := hz (⟨#[103, 111, 110, 101]⟩) (by show 4 ≤ 100000; omega)
      have hj := hj (⟨#[103, 111, 110, 101]⟩) (by rfl)
      have lm := And.intro hi hj
      have ck : Hc irightU (key, (m, n), c, true, v) (Hc rHexC (strOfNums v) (Hc rHexC key (Hc rDotC (m, n) (Hc dtextC c True)))) := .mk (.mk (.mk (.mk (.mk trivial))))
      exact G1
    | false =>
      by_cases h0 : v = []
      · have hbe : ((strOfNums (hexL (bytesL (strOfNums v)))).toList == (⟨#[]⟩ : ByteArray).toList) = true := by rw [hbe]; exact decide_eq_true (by rw [hbv, h0]; rfl)
        obtain ⟨⟨z1, z2⟩, ⟨z3, z4⟩, z5, z6⟩ := hz (⟨#[46]⟩) (by show 1 ≤ 100000; omega)
        have hj := hj (⟨#[46]⟩) (by unfold valW; rw [if_neg (by simp), if_pos h0]; rfl)
        have lm := And.intro hi (And.intro hj hbe)
        have ck : Hc irightU (key, (m, n), c, false, v) (Hc rHexC (strOfNums v) (Hc rHexC key (Hc rDotC (m, n) (Hc dtextC c True)))) := .mk (.mk (.mk (.mk (.mk trivial))))
        exact G1
      · have hvp : ¬ v.length = 0 := fun h => h0 (List.length_eq_zero_iff.1 h)
        have hbe : ((strOfNums (hexL (bytesL (strOfNums v)))).toList == (⟨#[]⟩ : ByteArray).toList) = false := by rw [hbe]; exact decide_eq_false (fun h => by have := congrArg ByteArray.size h; rw [hbv, str_size] at this; have : (hexL v).length = 0 := this; omega)
        obtain ⟨⟨z1, z2⟩, ⟨z3, z4⟩, z5, z6⟩ := hz (strOfNums (hexL (bytesL (strOfNums v)))) (by rw [hbv, str_size]; omega)
        have hj := hj (strOfNums (hexL (bytesL (strOfNums v)))) (by rw [hbv]; unfold valW; rw [if_neg (by simp), if_neg h0])
        have lm := And.intro hi (And.intro hj hbe)
        have ck : Hc irightU (key, (m, n), c, false, v) (Hc rHexC (strOfNums v) (Hc rHexC key (Hc rDotC (m, n) (Hc dtextC c True)))) := .mk (.mk (.mk (.mk (.mk trivial))))
        exact G1
end Go.Proofs.YthmbdjhlfieldaaGreatDoor

set_option linter.unusedVariables false
set_option linter.unusedSimpArgs false
set_option maxRecDepth 100000
set_option maxHeartbeats 4000000
namespace Go.Proofs.YthmbdjhlfieldaaGreatDoor
open Go.Eng
end Go.Proofs.YthmbdjhlfieldaaGreatDoor

set_option linter.unusedVariables false
set_option linter.unusedSimpArgs false
set_option maxRecDepth 100000
namespace Go.Proofs.YthmbdjhlfieldaaGreatDoor
open Go.Eng
@[reducible] def scompC : Ctr := {
  X := StrX
  Y := Unit
  args := fun x => [.v (.string x.s), .v (.string x.t)]
  rw := fun _ => []
  side := fun _ => True
  val := fun _ => ()
  ens := fun _ _ => True
  res := fun x _ => .v (.int .i64 (Lib.compareBytes x.s.data.toList x.t.data.toList))
  out := fun _ _ => [] }
theorem scomp_ok : scompC.ok Tryz.prog 56 := by
  refine ok_of_walk (fun _ => rfl) (fun _ => rfl) (fun x hs => ⟨trivial, fun E w vals hsz hv hg hI => ?_⟩)
  obtain ⟨s, c⟩ := x
  rw [vals_two hsz, sat_v (hv 0 _ rfl), sat_v (hv 1 _ rfl)]
  refine (Tryz.strings_Compare s c w).mono ?_
  rintro e w' ⟨rfl, rfl⟩
  exact ⟨_, rfl, .v _, .refl _ _, fun h => h.elim⟩
end Go.Proofs.YthmbdjhlfieldaaGreatDoor

set_option linter.unusedVariables false
set_option linter.unusedSimpArgs false
set_option maxRecDepth 100000
namespace Go.Proofs.YthmbdjhlfieldaaGreatDoor
open Go.Eng
theorem run_bytesRo {E : Env} {w : World} {b : Bool} {xs : List Int} {v : Value} {P : Program} (h : Sat E w (.ro b (.int .u8) xs) v) :
    (Extern.Bytes.bytesOf v).run P w = .ok (strOfNums xs) w := by
  have he : ∀ zs : List Int, (⟨ByteArray.empty.data ++ (Lib.bytesOf zs).toArray⟩ : ByteArray) = strOfNums zs := fun zs => by
    apply ByteArray.ext
    have h1 := Lib.strOfNums_toList zs
    rw [ByteArray.toList_eq] at h1
    rw [← h1]
    simp
  rcases sat_ro h with ⟨rfl, A, c, rfl⟩ | ⟨k, o, c, rfl, h2, h3, h4⟩
  · cases A with
    | none => rfl
    | some a => rfl
  · have hl := Lib.run_loadBytesX (P := P) w xs ⟨k, o, none⟩ .empty (fun j x hj => by
      obtain ⟨u, hu, hs⟩ := h4 j x 0 (.v (.int .u8 x)) hj rfl
      rw [sat_v hs] at hu
      by_cases hj0 : j = 0
      · subst hj0; simpa [Ty.size, Addr.add] using hu
      · simpa [Ty.size, Addr.add, hj0] using hu)
    rw [he] at hl
    exact hl
@[reducible] def bcmpC : Ctr := {
  X := List Int × List Int
  Y := Unit
  args := fun x => [.ro true (.int .u8) x.1, .ro true (.int .u8) x.2]
  rw := fun _ => []
  side := fun _ => True
  val := fun _ => ()
  ens := fun _ _ => True
  res := fun x _ => .v (.int .i64 (Lib.compareBytes (strOfNums x.1).data.toList (strOfNums x.2).data.toList))
  out := fun _ _ => [] }
theorem run_bcmp {P : Program} {w : World} {v u : Value} {A B : ByteArray} (h1 : (Extern.Bytes.bytesOf v).run P w = .ok A w) (h2 : (Extern.Bytes.bytesOf u).run P w = .ok B w) :
    (Extern.BytealgCompare.compare #[v, u]).run P w = .ok (.int .i64 (Lib.compareBytes A.data.toList B.data.toList)) w := by
  change Sem.run P (do pure (goInt (Extern.BytealgCompare.cmp (← Extern.Bytes.bytesOf v) (← Extern.Bytes.bytesOf u)))) w = _
  simp only [Sem.run_bind, h1, h2, Sem.run_pure, Result.andThen]
  rw [Lib.cmp_eq]
  rfl
theorem bcmp_ok : bcmpC.okV Tryz.prog 98 := by
  refine okV_of_run (fun _ => rfl) (fun _ => rfl) (fun x _ => ⟨trivial, fun E w vals hsz hv => ?_⟩)
  rw [vals_two hsz]
  have h1 := run_bytesRo (P := Tryz.prog) (hv 0 _ rfl)
  have h2 := run_bytesRo (P := Tryz.prog) (hv 1 _ rfl)
  refine ⟨.int .i64 (Lib.compareBytes (strOfNums x.1).data.toList (strOfNums x.2).data.toList), ?_, .v _⟩
  rw [run_callFunc_extern Tryz.func98 (by kernel_rfl) (by kernel_rfl) (by kernel_rfl) (e := Extern.BytealgCompare.compare) (by kernel_rfl), run_bcmp h1 h2]
  rfl
theorem bodyBcmp : bodyB Tryz.prog 98 = false := by kernel_rfl
theorem knownBcmp : Known Tryz.prog (gOf [(98, bcmpC)]) := known_ext bodyBcmp bcmp_ok (known_nil _)
theorem bcompare_ok : bcmpC.ok Tryz.prog 58 := by
  refine ok_of_vc (An := fun _ => anOf []) knownBcmp mo Tryz.func58 (by kernel_rfl) (by kernel_rfl) (fun _ _ => trivial) (fun (x : List Int × List Int) hs => ?_)
  obtain ⟨a, b⟩ := x
  have ck : Hc bcmpC (a, b) True := .mk trivial
  exact G1
end Go.Proofs.YthmbdjhlfieldaaGreatDoor

set_option linter.unusedVariables false
set_option linter.unusedSimpArgs false
set_option maxRecDepth 100000
set_option maxHeartbeats 4000000
namespace Go.Proofs.YthmbdjhlfieldaaGreatDoor
open Go.Eng
@[reducible] def ibytesF : Ctr := { ibytesV with res := fun x _ => .ro false (.int .u8) (itemBs x), out := fun _ _ => [] }
theorem ibytesF_ok : ibytesF.ok Tryz.prog 16 := ctr_freeze (C := ibytesV) (fun _ => rfl) (fun _ => rfl) ibytesV_ok
@[reducible] def icmpC : Ctr := {
  X := Item × Item
  Y := Unit
  args := fun x => [itemV x.1, itemV x.2]
  rw := fun _ => []
  side := fun x => itemL x.1 ∧ itemL x.2
  val := fun _ => ()
  ens := fun _ _ => True
  res := fun x _ => .v (.int .i64 (cmpIt x.1 x.2))
  out := fun x _ => [] }
theorem knownIm2 : Known Tryz.prog (gOf [(14, irightU), (56, scompC), (57, cmpC), (16, ibytesF), (58, bcmpC), (55, orC)]) :=
  known_cons ⟨iright_re iright_ok, Tryz.call14⟩ (known_cons ⟨scomp_ok, Tryz.call56⟩ (known_cons ⟨cmp_ok, Tryz.call57⟩ (known_cons ⟨ibytesF_ok, Tryz.call16⟩ (known_cons ⟨bcompare_ok, Tryz.call58⟩ (known_cons ⟨or_ok, Tryz.call55⟩ (known_nil _))))))
theorem orL_lex (p q r s : Int) : orL [p, q, r, s] = lexO p (lexO q (lexO r s)) := by
  unfold lexO
  simp only [orL]
  (repeat' split) <;> omega
theorem icmp_ok : icmpC.ok Tryz.prog 18 := by
  refine ok_of_vc (An := fun _ => anOf []) knownIm2 mo Tryz.func18 (by kernel_rfl) (by kernel_rfl) (fun _ _ => trivial) (fun (x : Item × Item) hs => ?_)
  obtain ⟨a, b⟩ := x
  have hT : cmpIt a b = if itemB a && itemB b then cmpK (keyI a) (keyI b) else 0 := rfl
  have hba : itemBs a = if itemB a = true then itemBy a else [] := rfl
  have hbb : itemBs b = if itemB b = true then itemBy b else [] := rfl
  obtain ⟨h1, h2⟩ := hs
  cases i1 : itemB a with
  | false =>
    rw [i1, Bool.false_and, if_neg (by simp)] at hT
    obtain ⟨k, ⟨m, n⟩, c, g, v⟩ := a
    obtain ⟨k', ⟨m', n'⟩, c', g', v'⟩ := b
    have lm := And.intro i1 hT
    have ck : Hc irightU (k, (m, n), c, g, v) True := .mk trivial
    exact G1
  | true =>
    cases i2 : itemB b with
    | false =>
      rw [i1, i2, Bool.true_and, if_neg (by simp)] at hT
      obtain ⟨k, ⟨m, n⟩, c, g, v⟩ := a
      obtain ⟨k', ⟨m', n'⟩, c', g', v'⟩ := b
      have lm := And.intro i1 (And.intro i2 hT)
      have ck : Hc irightU (k, (m, n), c, g, v) (Hc irightU (k', (m', n'), c', g', v') True) := .mk (.mk trivial)
      exact G1
    | true =>
      rw [i1, i2, Bool.true_and, if_pos rfl] at hT
      rw [i1, if_pos rfl] at hba
      rw [i2, if_pos rfl] at hbb
      obtain ⟨k, ⟨m, n⟩, c, g, v⟩ := a
      obtain ⟨k', ⟨m', n'⟩, c', g', v'⟩ := b
      have lm := And.intro i1 i2
      have ck : Hc irightU (k, (m, n), c, g, v) (Hc irightU (k', (m', n'), c', g', v') (Hc scompC ⟨k, k'⟩ (Hc cmpC (m, m') (Hc cmpC (n, n') (Hc ibytesF (k, (m, n), c, g, v) (Hc ibytesF (k', (m', n'), c', g', v') (Hc bcmpC (itemBs (k, (m, n), c, g, v), itemBs (k', (m', n'), c', g', v')) (Hc orC [Lib.compareBytes k.data.toList k'.data.toList, cmpI m m', cmpI n n', Lib.compareBytes (strOfNums (itemBs (k, (m, n), c, g, v))).data.toList (strOfNums (itemBs (k', (m', n'), c', g', v'))).data.toList] True)))))))) := .mk (.mk (.mk (.mk (.mk (.mk (.mk (.mk (.mk trivial))))))))
      (refine Z ?_; repeat' (first | exact .intro | ((first | refine B1 (fun h => ?_) fun h => ?_ | refine B2 fun y he he' hy => ?_ | refine B3 fun y he hy => ?_ | refine B4 fun y hy => ?_ | refine B5 fun ck => ?_ | fail) <;> refine Z ?_)))
      refine AskL.mk ?_ trivial
      dsimp only [conj]
      refine Eq.trans ?_ hT.symm
      rw [hba, hbb, orL_lex]
      rfl
end Go.Proofs.YthmbdjhlfieldaaGreatDoor

set_option linter.unusedVariables false
set_option linter.unusedSimpArgs false
set_option maxRecDepth 100000
set_option maxHeartbeats 4000000
namespace Go.Proofs.YthmbdjhlfieldaaGreatDoor
open Go.Eng
end Go.Proofs.YthmbdjhlfieldaaGreatDoor

set_option linter.unusedVariables false
set_option linter.unusedSimpArgs false
set_option linter.unusedSectionVars false
namespace Go.Proofs.YthmbdjhlfieldaaGreatDoor
open Go.Eng
variable [DM]
/-- A row of the result: its name, what is in it. -/
structure Rw where
  id : Nat
  t : Ty
  xs : List t.den
inductive FzS (R : List Rw) : SV → SV → Prop where
  | sl (r : Rw) (h : r ∈ R) : FzS R (.sl r.id) (.ro false r.t r.xs)
  | same (s : SV) : FzS R s s
  | agg (l l' : List SV) (hl : l'.length = l.length) (h : ∀ (j : Nat) (s s' : SV), l[j]? = some s → l'[j]? = some s' → FzS R s s') : FzS R (.agg l) (.agg l')
  | tuple (l l' : List SV) (hl : l'.length = l.length) (h : ∀ (j : Nat) (s s' : SV), l[j]? = some s → l'[j]? = some s' → FzS R s s') : FzS R (.tuple l) (.tuple l')
inductive FzL (R : List Rw) : List SV → List SV → Prop where
  | nil : FzL R [] []
  | cons {s s' : SV} {l l' : List SV} (h : FzS R s s') (k : FzL R l l') : FzL R (s :: l) (s' :: l')
theorem FzL.len {R : List Rw} {l l' : List SV} (h : FzL R l l') : l'.length = l.length := by
  induction h with
  | nil => rfl
  | cons _ _ ih => simp [ih]
theorem FzL.at {R : List Rw} {l l' : List SV} (h : FzL R l l') : ∀ (j : Nat) (s s' : SV), l[j]? = some s → l'[j]? = some s' → FzS R s s' := by
  induction h with
  | nil => intro j s' s h; simp at h
  | cons h _ ih =>
    intro j s' s h1 h2
    cases j with
    | zero =>
      obtain rfl := Option.some.inj h1
      obtain rfl := Option.some.inj h2
      exact h
    | succ j => exact ih j s' s h1 h2
theorem FzS.aggL {R : List Rw} {l l' : List SV} (h : FzL R l l') : FzS R (.agg l) (.agg l') := .agg l l' h.len h.at
theorem FzS.tupL {R : List Rw} {l l' : List SV} (h : FzL R l l') : FzS R (.tuple l) (.tuple l') := .tuple l l' h.len h.at
theorem FzS.sat {R : List Rw} {E E2 : Env} {w : World} {fp : Nat → Nat → Prop} (hle : E.le E2) (hrow : ∀ r, r ∈ R → ∃ te, EntSat E w (fp r.id) r.id (.row te r.t r.xs) ∧ ∀ b, fp r.id b → E2.I b)
    {s s' : SV} (h : FzS R s s') : ∀ {v : Value}, Sat E w s v → Sat E2 w s' v := by
  induction h with
  | sl r hr =>
    intro v hv
    obtain ⟨te, h1, h2⟩ := hrow r hr
    cases hv with
    | sl _ s hs => exact row_ro hle h1 hs h2
  | same s => intro v hv; exact hv.mono hle (fun _ _ _ => rfl)
  | agg l l' hl h ih =>
    intro v hv
    cases hv with
    | agg _ vs u h1 h2 h3 =>
      refine .agg l' vs u (h1.trans hl.symm) (fun j hj => h2 j (by omega)) (fun j sv hj => ?_)
      have hlt := (List.getElem?_eq_some_iff.1 hj).1
      have e := List.getElem?_eq_getElem (l := l) (i := j) (by omega)
      exact ih j _ sv e hj (h3 j _ e)
  | tuple l l' hl h ih =>
    intro v hv
    cases hv with
    | tuple _ vs u h1 h2 h3 =>
      refine .tuple l' vs u (h1.trans hl.symm) (fun j hj => h2 j (by omega)) (fun j sv hj => ?_)
      have hlt := (List.getElem?_eq_some_iff.1 hj).1
      have e := List.getElem?_eq_getElem (l := l) (i := j) (by omega)
      exact ih j _ sv e hj (h3 j _ e)
theorem ctr_freezeG {P : Program} {f : FuncId} {C : Ctr} (R : C.X → List Rw) (res' : C.X → SV) (out' : C.X → En) (hr : ∀ x, FzS (R x) (C.res x (C.val x)) (res' x))
    (hin : ∀ x r, r ∈ R x → ∃ te, find (C.out x (C.val x)) r.id = .row te r.t r.xs) (hout : ∀ x id, (find (out' x) id = find (C.out x (C.val x)) id ∧ ∀ r, r ∈ R x → r.id ≠ id) ∨ find (out' x) id = .gone)
    (h : C.ok P f) : ({ C with res := fun x _ => res' x, out := fun x _ => out' x } : Ctr).ok P f := by
  intro x hs
  obtain ⟨he, H⟩ := h x hs
  refine ⟨he, fun E fp vals w h1 h2 h3 h4 => CallsIn.mono (H E fp vals w h1 h2 h3 h4) ?_⟩
  rintro e w' ⟨v, E', fp', rfl, hv, hents, hadv, hn⟩
  let fr : Nat → Prop := fun b => ∃ r, r ∈ R x ∧ fp' r.id b
  let E2 : Env := { E' with I := fun b => E'.I b ∨ fr b }
  have hle : E'.le E2 := ⟨fun _ _ h => h, fun _ h => .inl h, fun _ h => h⟩
  let fp2 : Nat → Nat → Prop := fun id b => fp' id b ∧ find (out' x) id ≠ .gone
  have key : ∀ id b, fp2 id b → ¬ fr b := fun id b ⟨hb, hg⟩ ⟨r, hr, hrb⟩ => by
    rcases hout x id with ⟨_, hne⟩ | hgone
    · exact hents.apart r.id id b (hne r hr) hrb hb
    · exact hg hgone
  refine ⟨v, E2, fp2, rfl, (hr x).sat (fp := fp') hle (fun r hrr => ?_) hv, ⟨fun id => ?_, fun id b hb => hents.lt id b hb.1, fun id b hb hI => ?_, fun id b hb => hents.B id b hb.1, fun i j b hij hi hj => hents.apart i j b hij hi.1 hj.1, fun b hb => ?_, hents.nil.mono hle, hents.gl.mono (fun b hb => .inl hb) (fun _ _ => rfl)⟩,
    ⟨hadv.keep, hadv.le.trans hle, fun b hb => ?_, hadv.Beq, fun id b hb => hadv.onew id b hb.1⟩, hn⟩
  · obtain ⟨te, hf⟩ := hin x r hrr
    have := hents.sat r.id
    rw [hf] at this
    exact ⟨te, this, fun b hb => .inr ⟨r, hrr, hb⟩⟩
  · show EntSat E2 w' (fp2 id) id (find (out' x) id)
    rcases hout x id with ⟨heq, _⟩ | hgone
    · by_cases hg : find (out' x) id = .gone
      · rw [hg]; exact fun b hb => hb.2 hg
      · have hfp : fp2 id = fp' id := by
          funext b
          exact propext ⟨And.left, fun hb => ⟨hb, hg⟩⟩
        rw [hfp, heq]
        exact (hents.sat id).mono hle (fun _ _ _ => rfl) (Nat.le_refl _) (fun _ _ => rfl)
    · rw [hgone]; exact fun b hb => hb.2 hgone
  · rcases hI with hI | hI
    · exact hents.I id b hb.1 hI
    · exact key id b hb hI
  · rcases hb with (hb | ⟨r, hr, hb⟩) | hb
    · exact hents.Ilt b (.inl hb)
    · exact hents.lt _ b hb
    · exact hents.Ilt b (.inr hb)
  · rcases hb with hb | ⟨r, hr, hb⟩
    · exact hadv.Inew b hb
    · exact .inr (hadv.onew _ b hb)
end Go.Proofs.YthmbdjhlfieldaaGreatDoor

set_option linter.unusedVariables false
set_option linter.unusedSimpArgs false
set_option maxRecDepth 100000
set_option maxHeartbeats 4000000
namespace Go.Proofs.YthmbdjhlfieldaaGreatDoor
open Go.Eng
noncomputable def dparseF : Ctr := { dparseC with res := fun s _ => .tuple [.ro false runT (parsedL s), .v (.bool (parsedB s))], out := fun _ _ => [] }
attribute [reducible] dparseF
theorem dparseF_ok : dparseF.ok Tryz.prog 38 :=
  ctr_freezeG (C := dparseC) (fun s => [⟨1000, runT, parsedL s⟩]) (fun s => .tuple [.ro false runT (parsedL s), .v (.bool (parsedB s))]) (fun _ => [])
    (fun s => FzS.tupL (.cons (.sl ⟨1000, runT, parsedL s⟩ (List.mem_singleton.2 rfl)) (.cons (.same _) .nil)))
    (fun s r hr => by rcases List.mem_singleton.1 hr with rfl; exact ⟨_, rfl⟩) (fun s id => .inr rfl) dparse_ok
end Go.Proofs.YthmbdjhlfieldaaGreatDoor

set_option linter.unusedVariables false
set_option linter.unusedSimpArgs false
set_option maxRecDepth 100000
set_option maxHeartbeats 4000000
namespace Go.Proofs.YthmbdjhlfieldaaGreatDoor
open Go.Eng
@[reducible] def cutX : Ctr := {
  X := (ByteArray × ByteArray) × (ByteArray × ByteArray × Bool)
  Y := Unit
  args := fun x => [.v (.string x.1.1), .v (.string x.1.2)]
  rw := fun _ => []
  side := fun x => x.1.1.size < 4294967281 ∧ cutS x.1.1 x.1.2 = x.2
  val := fun _ => ()
  ens := fun _ _ => True
  res := fun x _ => .tuple [.v (.string x.2.1), .v (.string x.2.2.1), .v (.bool x.2.2.2)]
  out := fun _ _ => [] }
theorem cutX_ok : cutX.ok Tryz.prog 37 := ctr_re (C := cutC) (C' := cutX) (fun x => x.1) (fun x h => ⟨h.1, trivial, rfl, rfl, by show SV.tuple [.v (.string x.2.1), .v (.string x.2.2.1), .v (.bool x.2.2.2)] = SV.tuple [.v (.string (cutS x.1.1 x.1.2).1), .v (.string (cutS x.1.1 x.1.2).2.1), .v (.bool (cutS x.1.1 x.1.2).2.2)]; rw [h.2], rfl⟩) cut_ok
noncomputable def dparseY : Ctr := {
  X := ByteArray × List Run × Bool
  Y := Unit
  args := fun x => [.v (.string x.1)]
  rw := fun _ => []
  side := fun x => x.1.size ≤ 100000 ∧ parsedL x.1 = x.2.1 ∧ parsedB x.1 = x.2.2
  val := fun _ => ()
  ens := fun _ _ => True
  res := fun x _ => .tuple [.ro false runT x.2.1, .v (.bool x.2.2)]
  out := fun _ _ => [] }
attribute [reducible] dparseY
theorem dparseY_re {f : FuncId} (h : dparseF.ok Tryz.prog f) : dparseY.ok Tryz.prog f := ctr_re (C := dparseF) (C' := dparseY) (fun x => x.1) (fun x h => ⟨h.1, trivial, rfl, rfl, by show SV.tuple [.ro false runT x.2.1, .v (.bool x.2.2)] = SV.tuple [.ro false runT (parsedL x.1), .v (.bool (parsedB x.1))]; rw [h.2.1, h.2.2], rfl⟩) h
@[reducible] def unhexX : Ctr := {
  X := ByteArray × List Int
  Y := Unit
  args := fun x => [.v (.string x.1)]
  rw := fun _ => []
  side := fun x => x.1.size ≤ 100000000000 ∧ unhexL (bytesL x.1) = x.2
  val := fun _ => ()
  ens := fun _ _ => True
  res := fun x _ => .ro false (.int .u8) x.2
  out := fun _ _ => [] }
theorem unhexX_ok : unhexX.ok Tryz.prog 39 := ctr_re (C := unhexedC) (C' := unhexX) (fun x => x.1) (fun x h => ⟨h.1, trivial, rfl, rfl, by show SV.ro false (.int .u8) x.2 = SV.ro false (.int .u8) (unhexL (bytesL x.1)); rw [h.2], rfl⟩) unhexed_ok
@[reducible] def itextX : Ctr := {
  X := Item × ByteArray
  Y := Unit
  args := fun x => [itemV x.1]
  rw := fun _ => []
  side := fun x => itemZ x.1 ∧ strOfNums (textI x.1) = x.2
  val := fun _ => ()
  ens := fun _ _ => True
  res := fun x _ => .v (.string x.2)
  out := fun x _ => [] }
theorem itextX_re {f : FuncId} (h : itextC.ok Tryz.prog f) : itextX.ok Tryz.prog f := ctr_re (C := itextC) (C' := itextX) (fun x => x.1) (fun x h => ⟨h.1, trivial, rfl, rfl, by show SV.v (.string x.2) = SV.v (.string (strOfNums (textI x.1))); rw [h.2], rfl⟩) h
/-- What Parse hands back, by name. -/
noncomputable def iparseX : Ctr := {
  X := ByteArray × Item × Bool
  Y := Unit
  args := fun x => [.v (.string x.1)]
  rw := fun _ => []
  side := fun x => x.1.size ≤ 100000 ∧ vI x.1 = x.2.1 ∧ vB x.1 = x.2.2
  val := fun _ => ()
  ens := fun _ _ => True
  res := fun x _ => .tuple [itemA x.2.1, .v (.bool x.2.2)]
  out := fun _ _ => [] }
attribute [reducible] iparseX
theorem knownIpx : Known Tryz.prog (gOf [(37, cutX), (38, dparseY), (39, unhexX), (11, itextX)]) :=
  known_cons ⟨cutX_ok, Tryz.call37⟩ (known_cons ⟨dparseY_re dparseF_ok, Tryz.call38⟩ (known_cons ⟨unhexX_ok, Tryz.call39⟩ (known_cons ⟨itextX_re itext_ok, Tryz.call11⟩ (known_nil _))))
theorem parsedL_le {s : ByteArray} : (parsedL s).length ≤ s.size + 1 := by
  have hw := words_le s
  by_cases hp : parsedOk s
  · by_cases h45 : s = ⟨#[45]⟩
    · have : parsedL s = [] := if_pos h45
      rw [this]; simp
    · rw [parsedL_yes h45 hp]; unfold parse0; rw [List.length_map]; omega
  · rw [parsedL_no hp]; simp
theorem unhexL_le : ∀ l : List Int, (unhexL l).length ≤ l.length
  | [] => Nat.le_refl _
  | [_] => by simp [unhexL]
  | _ :: _ :: l => by
    have := unhexL_le l
    simp only [unhexL, List.length_cons]; omega
open Classical in
/-- What is read, by cases. -/
theorem vIB {s : ByteArray} {T : ByteArray} (hT : strOfNums (textI (vItem s)) = T) : vI s = (bif !decide (s = ⟨#[]⟩) && decide (T = s) then vItem s else zeroI) ∧ vB s = (!decide (s = ⟨#[]⟩) && decide (T = s)) := by
  unfold vI vB vOk
  rw [hT]
  by_cases e0 : s = ⟨#[]⟩ <;> by_cases e1 : T = s <;> simp [e0, e1]
theorem iparse_ok : iparseX.ok Tryz.prog 9 := by
  refine ok_of_vc (An := fun _ => anOf []) knownIpx mo Tryz.func9 (by kernel_rfl) (by kernel_rfl) (fun _ _ => trivial) (fun (x : ByteArray × Item × Bool) hs => ?_)
  obtain ⟨s, it, b⟩ := x
  obtain ⟨hs, hI, hB⟩ : s.size ≤ 100000 ∧ vI s = it ∧ vB s = b := hs
  obtain ⟨head, rest, b1, h1⟩ : ∃ u v w, cutS s (strOfNums [32, 91]) = (u, v, w) := ⟨_, _, _, rfl⟩
  obtain ⟨past, vl, b2, h2⟩ : ∃ u v w, cutS rest (strOfNums [93, 32]) = (u, v, w) := ⟨_, _, _, rfl⟩
  obtain ⟨key, dt, b3, h3⟩ : ∃ u v w, cutS head (strOfNums [32]) = (u, v, w) := ⟨_, _, _, rfl⟩
  have c1 := cut_le s (strOfNums [32, 91])
  have c2 := cut_le rest (strOfNums [93, 32])
  have c3 := cut_le head (strOfNums [32])
  rw [h1] at c1; rw [h2] at c2; rw [h3] at c3
  dsimp only at c1 c2 c3
  obtain ⟨P, p, hP, hp⟩ : ∃ P p, parsedL dt = P ∧ parsedB dt = p := ⟨_, _, rfl, rfl⟩
  obtain ⟨Q, q, hQ, hq⟩ : ∃ P p, parsedL past = P ∧ parsedB past = p := ⟨_, _, rfl, rfl⟩
  obtain ⟨K, hK⟩ : ∃ K, unhexL (bytesL key) = K := ⟨_, rfl⟩
  obtain ⟨V, hV⟩ : ∃ K, unhexL (bytesL vl) = K := ⟨_, rfl⟩
  obtain ⟨g, hg⟩ : ∃ g, decide (vl = goneS) = g := ⟨_, rfl⟩
  obtain ⟨d, hd⟩ : ∃ d, decide (vl = strOfNums [46]) = d := ⟨_, rfl⟩
  have hit : vItem s = (strOfNums K, dotO P, Q, g, bif g || d then [] else V) := by
    unfold vItem vPast vVal vKey vDot vHead vRest
    rw [h1]
    dsimp only
    rw [h2, h3]
    dsimp only
    rw [hP, hQ, hK, hV, ← hg, ← hd]
    by_cases e1 : vl = goneS <;> by_cases e2 : vl = strOfNums [46] <;> simp [e1, e2]
  obtain ⟨T, hT⟩ : ∃ T, strOfNums (textI (vItem s)) = T := ⟨_, rfl⟩
  obtain ⟨k1, k2⟩ := vIB hT
  rw [hit] at k1 hT
  rw [hI] at k1
  rw [hB] at k2
  obtain ⟨e, he0⟩ : ∃ e, decide (s = ⟨#[]⟩) = e := ⟨_, rfl⟩
  obtain ⟨t, ht⟩ : ∃ e, decide (T = s) = e := ⟨_, rfl⟩
  rw [he0, ht] at k1 k2
  have f1 : (vl.toList == (⟨#[103, 111, 110, 101]⟩ : ByteArray).toList) = g := (str_beq vl goneS).trans hg
  have f2 : (vl.toList == (⟨#[46]⟩ : ByteArray).toList) = d := (str_beq vl (strOfNums [46])).trans hd
  have f3 := (str_beq s ⟨#[]⟩).trans he0
  have f4 := (str_beq T s).trans ht
  have hQl : Q.length ≤ 100001 := by have := parsedL_le (s := past); rw [hQ] at this; omega
  have hKl : K.length ≤ 100000 := by have := unhexL_le (bytesL key); rw [hK, bytesL_length] at this; omega
  have hVl : V.length ≤ 100000 := by have := unhexL_le (bytesL vl); rw [hV, bytesL_length] at this; omega
  have hVy : okY V := by rw [← hV]; exact unhexL_ok _
  have s1 : cutX.side ((s, strOfNums [32, 91]), (head, rest, b1)) := ⟨by show s.size < _; omega, h1⟩
  have s2 : cutX.side ((rest, strOfNums [93, 32]), (past, vl, b2)) := ⟨by show rest.size < _; omega, h2⟩
  have s3 : cutX.side ((head, strOfNums [32]), (key, dt, b3)) := ⟨by show head.size < _; omega, h3⟩
  have s4 : dparseY.side (dt, P, p) := ⟨by show dt.size ≤ _; omega, hP, hp⟩
  have s5 : dparseY.side (past, Q, q) := ⟨by show past.size ≤ _; omega, hQ, hq⟩
  have s6 : unhexX.side (key, K) := ⟨by show key.size ≤ _; omega, hK⟩
  have s7 : unhexX.side (vl, V) := ⟨by show vl.size ≤ _; omega, hV⟩
  have s8 : itextX.side ((strOfNums K, dotO P, Q, g, bif g || d then [] else V), T) := by
    refine ⟨⟨⟨by show (strOfNums K).size ≤ _; rw [str_size]; omega, by show Q.length ≤ _; omega, ?_⟩, ?_⟩, hT⟩
    · show (bif g || d then [] else V).length ≤ _
      cases g <;> cases d <;> simp only [cond_true, cond_false, Bool.or_true, Bool.or_false, List.length_nil] <;> omega
    · show okY (bif g || d then [] else V)
      cases g <;> cases d <;> first | exact hVy | exact fun c hc => nomatch hc
  have ck : Hc cutX ((s, strOfNums [32, 91]), (head, rest, b1)) (Hc cutX ((rest, strOfNums [93, 32]), (past, vl, b2)) (Hc cutX ((head, strOfNums [32]), (key, dt, b3)) (Hc dparseY (dt, P, p) (Hc unhexX (key, K) (Hc dparseY (past, Q, q) (Hc unhexX (vl, V) (Hc itextX ((strOfNums K, dotO P, Q, g, bif g || d then [] else V), T) True))))))) := ⟨⟨⟨⟨⟨⟨⟨⟨trivial⟩⟩⟩⟩⟩⟩⟩⟩
  clear hit hT hI hB hg hd he0 ht h1 h2 h3 hP hp hQ hq hK hV hVy c1 c2 c3
  subst k1 k2
  rcases P with _ | ⟨r, P⟩
  · have hl : ([] : List Run).length = 0 := rfl
    cases g <;> cases d <;> cases e <;> cases t
    all_goals
      have lm := And.intro f1 (And.intro f2 (And.intro f3 f4))
      (refine Z ?_; repeat' (first | exact .intro | ((first | refine B1 (fun h => ?_) fun h => ?_ | refine B2 fun y he he' hy => ?_ | refine B3 fun y he hy => ?_ | refine B4 fun y hy => ?_ | refine B5 fun ck => ?_ | fail) <;> refine Z ?_)))
  · have hl : (r :: P).length = P.length + 1 := rfl
    cases g <;> cases d <;> cases e <;> cases t
    all_goals
      have lm := And.intro f1 (And.intro f2 (And.intro f3 f4))
      (refine Zm ?_; repeat' (first | exact .intro | ((first | refine B1 (fun h => ?_) fun h => ?_ | refine B2 fun y he he' hy => ?_ | refine B3 fun y he hy => ?_ | refine B4 fun y hy => ?_ | refine B5 fun ck => ?_ | fail) <;> refine Zm ?_)))
      refine All'.mk ?_
      rintro (y : Run) hy
      obtain rfl : r = y := Option.some.inj hy
      clear hy
      (refine Zm ?_; repeat' (first | exact .intro | ((first | refine B1 (fun h => ?_) fun h => ?_ | refine B2 fun y he he' hy => ?_ | refine B3 fun y he hy => ?_ | refine B4 fun y hy => ?_ | refine B5 fun ck => ?_ | fail) <;> refine Zm ?_)))
      refine All'.mk ?_
      rintro (y : Run) hy
      obtain rfl : r = y := Option.some.inj hy
      clear hy
      (refine Z ?_; repeat' (first | exact .intro | ((first | refine B1 (fun h => ?_) fun h => ?_ | refine B2 fun y he he' hy => ?_ | refine B3 fun y he hy => ?_ | refine B4 fun y hy => ?_ | refine B5 fun ck => ?_ | fail) <;> refine Z ?_)))
end Go.Proofs.YthmbdjhlfieldaaGreatDoor

set_option linter.unusedVariables false
set_option linter.unusedSimpArgs false
set_option maxRecDepth 100000
set_option maxHeartbeats 4000000
namespace Go.Proofs.YthmbdjhlfieldaaGreatDoor
open Go.Eng
@[reducible] def rSplitX : Ctr := {
  X := SplX × List ByteArray
  Y := Unit
  args := fun x => [.v (.string x.1.s), .v (.int .u8 x.1.c)]
  rw := fun _ => []
  side := fun x => x.1.s.size ≤ 100000000000 ∧ (splitL x.1.c (bytesL x.1.s)).map strOfNums = x.2
  val := fun _ => ()
  ens := fun _ _ => True
  res := fun x _ => .ro false .str x.2
  out := fun _ _ => [] }
theorem rSplitX_ok : rSplitX.ok Tryz.prog 40 := ctr_re (C := rSplitC) (C' := rSplitX) (fun x => x.1) (fun x h => ⟨h.1, trivial, rfl, rfl, by show SV.ro false .str x.2 = SV.ro false .str ((splitL x.1.c (bytesL x.1.s)).map strOfNums); rw [h.2], rfl⟩) rSplit_ok
@[reducible] def rUnhexX : Ctr := {
  X := ByteArray × ByteArray × Bool
  Y := Unit
  args := fun x => [.v (.string x.1)]
  rw := fun _ => []
  side := fun x => x.1.size ≤ 100000000000 ∧ (if unhexOk (bytesL x.1) then strOfNums (unhexL (bytesL x.1)) else ⟨#[]⟩) = x.2.1 ∧ unhexOk (bytesL x.1) = x.2.2
  val := fun _ => ()
  ens := fun _ _ => True
  res := fun x _ => .tuple [.v (.string x.2.1), .v (.bool x.2.2)]
  out := fun _ _ => [] }
theorem rUnhexX_ok : rUnhexX.ok Tryz.prog 41 := ctr_re (C := rUnhexC) (C' := rUnhexX) (fun x => x.1) (fun x h => ⟨h.1, trivial, rfl, rfl, by show SV.tuple [.v (.string x.2.1), .v (.bool x.2.2)] = SV.tuple [.v (.string (if unhexOk (bytesL x.1) then strOfNums (unhexL (bytesL x.1)) else ⟨#[]⟩)), .v (.bool (unhexOk (bytesL x.1)))]; rw [h.2.1, h.2.2], rfl⟩) rUnhex_ok
theorem rdparseF_ok : dparseF.ok Tryz.prog 42 :=
  ctr_freezeG (C := dparseC) (fun s => [⟨1000, runT, parsedL s⟩]) (fun s => .tuple [.ro false runT (parsedL s), .v (.bool (parsedB s))]) (fun _ => [])
    (fun s => FzS.tupL (.cons (.sl ⟨1000, runT, parsedL s⟩ (List.mem_singleton.2 rfl)) (.cons (.same _) .nil)))
    (fun s r hr => by rcases List.mem_singleton.1 hr with rfl; exact ⟨_, rfl⟩) (fun s id => .inr rfl) rparse_ok
theorem knownRip : Known Tryz.prog (gOf [(40, rSplitX), (41, rUnhexX), (42, dparseY), (19, irightU)]) :=
  known_cons ⟨rSplitX_ok, Tryz.call40⟩ (known_cons ⟨rUnhexX_ok, Tryz.call41⟩ (known_cons ⟨dparseY_re rdparseF_ok, Tryz.call42⟩ (known_cons ⟨iright_re riright_ok, Tryz.call19⟩ (known_nil _))))
theorem ext_mid (l : List Int) : (strOfNums l).extract 1 (l.length - 1) = strOfNums l.tail.dropLast := by
  have h : ((strOfNums l).extract 1 (l.length - 1)).data.toList = (strOfNums l.tail.dropLast).data.toList := by
    rw [strs_data, ByteArray.data_extract, Array.toList_extract, strs_data, List.extract_eq_take_drop, List.map_dropLast, List.map_tail, List.dropLast_eq_take, List.length_tail, List.length_map, List.drop_one]
  exact ByteArray.ext (Array.toList_inj.1 h)
/-- What is behind the words. -/
structure RW (l : List Int) (a b : List Int) (p : List Int) (m : List (List Int)) (v : List Int) : Prop where
  w : splitL 32 l = a :: b :: (p :: m ++ [v])
  key : rKey l = a
  dot : rDot l = b
  val : rVal l = v
  past : rPast l = spc (p :: m)
theorem rw_four {l : List Int} (h : 4 ≤ (splitL 32 l).length) : ∃ a b p m v, RW l a b p m v := by
  obtain ⟨a, b, m, v, hw, hm⟩ := four h
  cases m with
  | nil => exact absurd rfl hm
  | cons p m =>
    refine ⟨a, b, p, m, v, hw, by unfold rKey; rw [hw]; rfl, by unfold rDot; rw [hw]; rfl, ?_, ?_⟩
    · unfold rVal; rw [hw, show ∀ (a b : List Int) m v, a :: b :: (m ++ [v]) = (a :: b :: m) ++ [v] from fun _ _ _ _ => rfl, List.getLastD_concat]
    · unfold rPast; rw [hw]
      show spc ((p :: m ++ [v]).dropLast) = _
      rw [List.dropLast_concat]
theorem spc_take {p : List Int} {m : List (List Int)} {j : Nat} {x : List Int} (h : m[j]? = some x) : spc (p :: m.take (j + 1)) = spc (p :: m.take j) ++ ([32] ++ x) := by
  rw [take_get h, ← List.cons_append, spc_snoc, if_pos (by simp)]
theorem spc_pre (p : List Int) (m : List (List Int)) (j : Nat) : (spc (p :: m.take j)).length ≤ (spc (p :: m)).length := by
  show (p ++ spT (m.take j)).length ≤ (p ++ spT m).length
  have e : spT m = spT (m.take j) ++ spT (m.drop j) := by
    unfold spT; rw [← List.flatten_append, ← List.map_append, List.take_append_drop]
  rw [e, List.length_append, List.length_append, List.length_append]; omega
theorem RW.le {l a b p : List Int} {m : List (List Int)} {v : List Int} (h : RW l a b p m v) : a.length + b.length + (spc (p :: m)).length + v.length ≤ l.length := by
  have e := spc_split l
  rw [h.w, spc_two a b (p :: m) v (by simp)] at e
  have := congrArg List.length e
  simp only [List.length_append, List.length_cons, List.length_nil] at this
  omega
theorem RW.okB {l a b p : List Int} {m : List (List Int)} {v : List Int} (h : RW l a b p m v) (hl : okB l) : okB a ∧ okB b ∧ okB (spc (p :: m)) ∧ okB v := by
  have hm : ∀ t, t ∈ splitL 32 l → Proofs.YthmbdjhlfieldaaGreatDoor.okB t := fun t ht c hc => hl c ((splitL_mem 32 l t ht).2 c hc).1
  rw [h.w] at hm
  exact ⟨hm a (by simp), hm b (by simp), okB_spc _ (fun w hw => hm w (by rcases List.mem_cons.1 hw with rfl | hw <;> simp [*])), hm v (by simp)⟩
theorem byte_head {R : List Int} (hR : Proofs.YthmbdjhlfieldaaGreatDoor.okB R) {i : Nat} (h : i < R.length) : R[i]? = some (byteAt (strOfNums R) i) := by
  have := byteAt_some (s := strOfNums R) (i := i) (by rw [str_size]; exact h)
  rwa [bytes_str hR] at this
end Go.Proofs.YthmbdjhlfieldaaGreatDoor

set_option linter.unusedVariables false
set_option linter.unusedSimpArgs false
set_option maxRecDepth 100000
set_option maxHeartbeats 40000000
namespace Go.Proofs.YthmbdjhlfieldaaGreatDoor
open Go.Eng
@[reducible] def ripL (L M : List ByteArray) (q : Nat → ByteArray) : LA := {
  X := Nat
  pre := fun j => j ≤ M.length
  mu := fun j => M.length - j
  T := fun j => [(2, .ptr 2 0), (3, .v (.bool false)), (4, .ro false .str L), (5, .v (.string (q j))), (31, .ro false .str M), (32, .v (.int .i64 M.length)), (33, .v (.int .i64 (j : Nat)))]
  M := fun _ => [(2, .cells 28 [.v (.string ⟨#[]⟩), .v (.int .i64 0), .v (.int .i64 0), .v (.slice none 0 0), .v (.bool false), .v (.slice none 0 0)])] }
open Classical in
theorem rip_bad {s : ByteArray} {l : List Int} {it : Item} {b : Bool} (hl : bytesL s = l) (hI : vI s = it) (hB : vB s = b) (h : ¬ ROk l) : it = zeroI ∧ b = false := by
  have hv : ¬ vOk s := fun k => h (hl ▸ ref_same.1.2 k)
  rw [← hI, ← hB]
  unfold vI vB
  exact ⟨if_neg hv, decide_eq_false hv⟩
open Classical in
theorem rip_good {s : ByteArray} {l : List Int} {it : Item} {b : Bool} (hl : bytesL s = l) (hI : vI s = it) (hB : vB s = b) (h : ROk l) : it = rItem l ∧ b = true := by
  have hv : vOk s := ref_same.1.1 (hl.symm ▸ h)
  have e := ref_same.2 hv
  rw [hl] at e
  rw [← hI, ← hB]
  unfold vI vB
  exact ⟨(if_pos hv).trans e.symm, decide_eq_true hv⟩
/-- Whether the parts make an item, and which. -/
theorem rip_fin {l wa wb wp : List Int} {wm : List (List Int)} {wv R0 : List Int} {it : Item} {b : Bool} (hw : RW l wa wb wp wm wv) (hR0 : spc (wp :: wm) = R0) (hn : 4 ≤ (splitL 32 l).length) (ov : okB wv)
    (hp : 2 ≤ R0.length ∧ R0.head? = some 91 ∧ R0.getLast? = some 93) {TK : ByteArray} (hTK : strOfNums (unhexL wa) = TK) (hk : unhexOk wa = true) {r : Run} (hD : parsedL (strOfNums wb) = [r]) (hr : r.2.1 = r.2.2) (hd : parsedB (strOfNums wb) = true)
    {C : List Run} (hC : parsedL (strOfNums R0.tail.dropLast) = C) (hc : parsedB (strOfNums R0.tail.dropLast) = true) {g d vb e i : Bool} {TV : ByteArray} (hg : decide (strOfNums wv = goneS) = g) (hdo : decide (strOfNums wv = strOfNums [46]) = d)
    (hvb : unhexOk wv = vb) (hTV : (if unhexOk wv = true then strOfNums (unhexL wv) else ⟨#[]⟩) = TV) (he : decide (TV = ⟨#[]⟩) = e) (hi : itemB (TK, (r.1, r.2.1), C, g, bif g || d then [] else bytesL TV) = i)
    (hbad : ¬ ROk l → it = zeroI ∧ b = false) (hgood : ROk l → it = rItem l ∧ b = true) :
    it = (bif (g || d || (vb && !e)) && i then (TK, (r.1, r.2.1), C, g, bif g || d then [] else bytesL TV) else zeroI) ∧ b = ((g || d || (vb && !e)) && i) := by
  have og : okB goneL := fun c hc => by simp [goneL] at hc; omega
  have o46 : okB [46] := fun c hc => by rcases List.mem_singleton.1 hc with rfl; omega
  have inj : ∀ t : List Int, okB t → (strOfNums wv = strOfNums t ↔ wv = t) := fun t ht => ⟨fun h => by have := congrArg bytesL h; rwa [bytes_str ov, bytes_str ht] at this, fun h => by rw [h]⟩
  have hg' : (wv = goneL ↔ g = true) := by rw [← hg, decide_eq_true_eq]; exact (inj goneL og).symm
  have hd' : (wv = [46] ↔ d = true) := by rw [← hdo, decide_eq_true_eq]; exact (inj [46] o46).symm
  have hval : ∀ ok : vb = true, TV = strOfNums (unhexL wv) ∧ bytesL TV = unhexL wv ∧ (e = false ↔ unhexL wv ≠ []) := fun ok => by
    rw [hvb, ok, if_pos rfl] at hTV
    have hb : bytesL TV = unhexL wv := by rw [← hTV, bytes_str (unhexL_ok _)]
    refine ⟨hTV.symm, hb, ?_⟩
    rw [← he, decide_eq_false_iff_not]
    refine not_congr ⟨fun h => ?_, fun h => ?_⟩
    · rw [← hb, h]; rfl
    · rw [← hTV, h]; rfl
  have hmid : rMid l = R0.tail.dropLast := by unfold rMid; rw [hw.past, hR0]
  have hit : g = true ∨ d = true ∨ vb = true → rItem l = (TK, (r.1, r.2.1), C, g, bif g || d then [] else bytesL TV) := fun ok => by
    unfold rItem
    rw [hw.key, hw.dot, hw.val, hmid, hTK, hD, hC]
    have e1 : decide (wv = goneL) = g := by cases g <;> simp [hg']
    rw [e1]
    show (TK, (r.1, r.2.1), C, g, _) = _
    congr 4
    by_cases hx : wv = goneL ∨ wv = [46]
    · rw [if_pos hx]
      rcases hx with hx | hx
      · rw [hg'.1 hx]; rfl
      · rw [hd'.1 hx, Bool.or_true]; rfl
    · rw [if_neg hx]
      have n1 : g = false := by cases hgg : g with | false => rfl | true => exact absurd (.inl (hg'.2 hgg)) hx
      have n2 : d = false := by cases hgg : d with | false => rfl | true => exact absurd (.inr (hd'.2 hgg)) hx
      rw [n1, n2]
      rw [n1, n2] at ok
      have := hval (by rcases ok with h | h | h <;> first | exact h | cases h)
      exact this.2.1.symm
  have hiff : ROk l ↔ (g = true ∨ d = true ∨ (vb = true ∧ e = false)) ∧ i = true := by
    constructor
    · intro h
      have hv : g = true ∨ d = true ∨ (vb = true ∧ e = false) := by
        have := h.v
        rw [hw.val, hg', hd'] at this
        rcases this with h | h | ⟨h1, h2⟩
        · exact .inl h
        · exact .inr (.inl h)
        · have ok : vb = true := hvb.symm.trans h1
          exact .inr (.inr ⟨ok, (hval ok).2.2.2 h2⟩)
      refine ⟨hv, ?_⟩
      have := h.i
      rw [hit (by rcases hv with h | h | h; exact .inl h; exact .inr (.inl h); exact .inr (.inr h.1)), hi] at this
      exact this
    · rintro ⟨hv, hi2⟩
      refine ⟨hn, by rw [hw.past, hR0]; exact hp, by rw [hw.key]; exact hk, by rw [hw.dot]; exact hd, by rw [hmid]; exact hc, ⟨r, by rw [hw.dot]; exact hD, hr⟩, ?_, ?_⟩
      · rw [hw.val, hg', hd']
        rcases hv with h | h | ⟨h1, h2⟩
        · exact .inl h
        · exact .inr (.inl h)
        · exact .inr (.inr ⟨hvb.trans h1, (hval h1).2.2.1 h2⟩)
      · rw [hit (by rcases hv with h | h | h; exact .inl h; exact .inr (.inl h); exact .inr (.inr h.1)), hi]; exact hi2
  by_cases hR : ROk l
  · obtain ⟨a1, a2⟩ := hgood hR
    obtain ⟨b1, b2⟩ := hiff.1 hR
    have b3 : (g || d || (vb && !e)) = true := by rcases b1 with h | h | ⟨h, h'⟩ <;> simp [h, *]
    rw [b3, b2, a1, a2, hit (by rcases b1 with h | h | h; exact .inl h; exact .inr (.inl h); exact .inr (.inr h.1))]
    exact ⟨rfl, rfl⟩
  · obtain ⟨a1, a2⟩ := hbad hR
    have b3 : ((g || d || (vb && !e)) && i) = false := by
      cases hx : ((g || d || (vb && !e)) && i) with
      | false => rfl
      | true =>
        refine absurd (hiff.2 ?_) hR
        simp only [Bool.and_eq_true, Bool.or_eq_true, Bool.not_eq_true'] at hx
        exact ⟨by rcases hx.1 with (h | h) | h; exact .inl h; exact .inr (.inl h); exact .inr (.inr h), hx.2⟩
    rw [b3, a1, a2]
    exact ⟨rfl, rfl⟩
/-- What the loop joins. -/
def ripQ (s : ByteArray) (j : Nat) : ByteArray := strOfNums (spc ((splitL 32 (bytesL s)).getD 2 [] :: (((splitL 32 (bytesL s)).drop 3).dropLast).take j))
theorem riparse_ok : iparseX.ok Tryz.prog 10 := by
  refine ok_of_vc (An := fun (x : ByteArray × Item × Bool) => anOf [(0, .loop (ripL ((splitL 32 (bytesL x.1)).map strOfNums) ((((splitL 32 (bytesL x.1)).drop 3).dropLast).map strOfNums) (ripQ x.1)))]) knownRip mo Tryz.func10 (by kernel_rfl) (by kernel_rfl) (fun _ _ => trivial) (fun (x : ByteArray × Item × Bool) hs => ?_)
  obtain ⟨s, it, b⟩ := x
  obtain ⟨hs, hI, hB⟩ : s.size ≤ 100000 ∧ vI s = it ∧ vB s = b := hs
  obtain ⟨l, hl⟩ : ∃ l, bytesL s = l := ⟨_, rfl⟩
  have hlo : okB l := by rw [← hl]; exact bytesL_ok s
  have hln : l.length ≤ 100000 := by rw [← hl, bytesL_length]; exact hs
  obtain ⟨L, hL⟩ : ∃ L, (splitL 32 l).map strOfNums = L := ⟨_, rfl⟩
  have hWl : (splitL 32 l).length = L.length := by rw [← hL, List.length_map]
  have hLl : L.length ≤ 100001 := by have := splitL_le 32 l; omega
  have s0 : rSplitX.side (⟨s, 32⟩, L) := ⟨by show s.size ≤ 100000000000; omega, by show (splitL 32 (bytesL s)).map strOfNums = L; rw [hl, hL]⟩
  have hbad := rip_bad hl hI hB
  have hgood := rip_good hl hI hB
  rw [hl, hL]
  clear hI hB
  have ck : Hc rSplitX (⟨s, 32⟩, L) True := ⟨trivial⟩
  rcases Nat.lt_or_ge L.length 4 with h4 | h4
  · obtain ⟨rfl, rfl⟩ := hbad (fun h => by have := h.n; omega)
    clear hbad hgood
    exact G1
  · obtain ⟨wa, wb, wp, wm, wv, hw⟩ := rw_four (l := l) (by omega)
    have hle := hw.le
    obtain ⟨oa, ob, op, ov⟩ := hw.okB hlo
    have e3 : ((splitL 32 l).drop 3).dropLast = wm := by rw [hw.w]; simp
    have e2 : (splitL 32 l).getD 2 [] = wp := by rw [hw.w]; rfl
    have hM : (L.take ((L.length : Int) - 1).toNat).drop (3 : Int).toNat = wm.map strOfNums := by
      show (L.take ((L.length : Int) - 1).toNat).drop 3 = wm.map strOfNums
      rw [← hL, List.length_map, ← List.map_take, ← List.map_drop, hw.w]
      congr 1
      have : (((wa :: wb :: (wp :: wm ++ [wv])).length : Int) - 1).toNat = (wa :: wb :: wp :: wm).length := by simp; omega
      rw [this, show wa :: wb :: (wp :: wm ++ [wv]) = (wa :: wb :: wp :: wm) ++ [wv] from rfl, List.take_left]
      rfl
    have hq : ∀ j, ripQ s j = strOfNums (spc (wp :: wm.take j)) := fun j => by unfold ripQ; rw [hl, e2, e3]
    have h2 : L[(2 : Int).toNat]? = some (strOfNums wp) := by rw [← hL, hw.w]; rfl
    rw [e3]
    obtain ⟨M, hMn⟩ : ∃ M, wm.map strOfNums = M := ⟨_, rfl⟩
    rw [hMn] at hM ⊢
    (refine Zm ?_; repeat' (first | exact .intro | ((first | refine B1 (fun h => ?_) fun h => ?_ | refine B2 fun y he he' hy => ?_ | refine B3 fun y he hy => ?_ | refine B4 fun y hy => ?_ | refine B5 fun ck => ?_ | fail) <;> refine Zm ?_)))
    refine All'.mk ?_
    rintro (y : ByteArray) hy
    obtain rfl : strOfNums wp = y := Option.some.inj (h2.symm.trans hy)
    clear hy
    have q0 : ripQ s 0 = strOfNums wp := by rw [hq]; simp [spc, spT]
    have hMl : M.length ≤ 100001 := by rw [← hMn, List.length_map]; have := congrArg List.length hw.w; simp at this; omega
    have lm := And.intro hM q0
    (refine Z ?_; repeat' (first | exact .intro | ((first | refine B1 (fun h => ?_) fun h => ?_ | refine B2 fun y he he' hy => ?_ | refine B3 fun y he hy => ?_ | refine B4 fun y hy => ?_ | refine B5 fun ck => ?_ | fail) <;> refine Z ?_)))
    refine Some'.mk (0 : Nat) ?_
    (refine Z ?_; repeat' (first | exact .intro | ((first | refine B1 (fun h => ?_) fun h => ?_ | refine B2 fun y he he' hy => ?_ | refine B3 fun y he hy => ?_ | refine B4 fun y hy => ?_ | refine B5 fun ck => ?_ | fail) <;> refine Z ?_)))
    refine AllI.mk ?_
    rintro (j : Nat) hj
    have hj : j ≤ M.length := hj
    rcases Nat.lt_or_ge j M.length with hlt | hge
    · obtain ⟨x, hx⟩ := get_ex (by rw [← hMn, List.length_map] at hlt; exact hlt : j < wm.length)
      have hMx : M[((j : Nat) : Int).toNat]? = some (strOfNums x) := by rw [← hMn, List.getElem?_map, Int.toNat_natCast, hx]; rfl
      have e1 := spc_pre wp wm (j + 1)
      have e4 := spc_take (p := wp) hx
      have e5 : ripQ s j ++ ((⟨#[32]⟩ : ByteArray) ++ strOfNums x) = ripQ s (j + 1) := by rw [hq, hq, e4, show (⟨#[32]⟩ : ByteArray) = strOfNums [32] from rfl, str_cat, str_cat]
      rw [e4] at e1
      simp only [List.length_append, List.length_cons, List.length_nil] at e1
      have z1 : (ripQ s j).size ≤ 100000 := by rw [hq, str_size]; omega
      have z2 : (strOfNums x).size ≤ 100000 := by rw [str_size]; omega
      have z3 : ((⟨#[32]⟩ : ByteArray) ++ strOfNums x).size ≤ 100001 := by rw [ByteArray.size_append]; show 1 + _ ≤ _; omega
      have z4 : (⟨#[32]⟩ : ByteArray).size = 1 := rfl
      (refine Zm ?_; repeat' (first | exact .intro | ((first | refine B1 (fun h => ?_) fun h => ?_ | refine B2 fun y he he' hy => ?_ | refine B3 fun y he hy => ?_ | refine B4 fun y hy => ?_ | refine B5 fun ck => ?_ | fail) <;> refine Zm ?_)))
      refine All'.mk ?_
      rintro (y : ByteArray) hy
      obtain rfl : strOfNums x = y := Option.some.inj (hMx.symm.trans hy)
      clear hy
      have lm := e5
      (refine Z ?_; repeat' (first | exact .intro | ((first | refine B1 (fun h => ?_) fun h => ?_ | refine B2 fun y he he' hy => ?_ | refine B3 fun y he hy => ?_ | refine B4 fun y hy => ?_ | refine B5 fun ck => ?_ | fail) <;> refine Z ?_)))
      refine Some'.mk (j + 1) ?_
      exact G1
    · obtain rfl : j = M.length := by omega
      clear lm q0 hj hge
      obtain ⟨R0, hR0⟩ : ∃ R0, spc (wp :: wm) = R0 := ⟨_, rfl⟩
      have hR : ripQ s M.length = strOfNums R0 := by rw [hq, ← hMn, List.length_map, List.take_length, hR0]
      have hz : (ripQ s M.length).size = R0.length := by rw [hR, str_size]
      have hpast := hw.past
      rw [hR0] at hpast hle op
      rcases Nat.lt_or_ge R0.length 2 with hp1 | hp1
      · obtain ⟨rfl, rfl⟩ := hbad (fun h => by have := h.p.1; rw [hpast] at this; omega)
        clear hbad hgood
        exact G1
      · have b0 := byte_head op (i := 0) (by omega)
        have bn := byte_head op (i := R0.length - 1) (by omega)
        rw [← hR] at b0 bn
        have hb0 : byteAt (ripQ s M.length) (Int.toNat 0) = byteAt (ripQ s M.length) 0 := rfl
        have hbn : byteAt (ripQ s M.length) (((ripQ s M.length).size : Int) - 1).toNat = byteAt (ripQ s M.length) (R0.length - 1) := by rw [hz]; congr 1; omega
        by_cases hp2 : byteAt (ripQ s M.length) 0 = 91
        · by_cases hp3 : byteAt (ripQ s M.length) (R0.length - 1) = 93
          · have ha0 : L[(0 : Int).toNat]? = some (strOfNums wa) := by rw [← hL, hw.w]; rfl
            have ha1 : L[(1 : Int).toNat]? = some (strOfNums wb) := by rw [← hL, hw.w]; rfl
            have hav : L[((L.length : Int) - 1).toNat]? = some (strOfNums wv) := by
              rw [show ((L.length : Int) - 1).toNat = L.length - 1 by omega, ← List.getLast?_eq_getElem?, ← hL, hw.w, List.getLast?_map]
              show Option.map strOfNums ((wa :: wb :: wp :: wm) ++ [wv]).getLast? = _
              rw [List.getLast?_append]; rfl
            obtain ⟨MID, hMID⟩ : ∃ t, strOfNums R0.tail.dropLast = t := ⟨_, rfl⟩
            have hx : (ripQ s M.length).extract (Int.toNat 1) (((ripQ s M.length).size : Int) - 1).toNat = MID := by
              rw [hz, show ((R0.length : Int) - 1).toNat = R0.length - 1 by omega, hR]
              exact (ext_mid R0).trans hMID
            have hMz : MID.size ≤ 100000 := by rw [← hMID, str_size, List.length_dropLast, List.length_tail]; omega
            obtain ⟨TK, kb, hTK, hkb⟩ : ∃ t k, (if unhexOk (bytesL (strOfNums wa)) then strOfNums (unhexL (bytesL (strOfNums wa))) else ⟨#[]⟩) = t ∧ unhexOk (bytesL (strOfNums wa)) = k := ⟨_, _, rfl, rfl⟩
            obtain ⟨TV, vb, hTV, hvb⟩ : ∃ t k, (if unhexOk (bytesL (strOfNums wv)) then strOfNums (unhexL (bytesL (strOfNums wv))) else ⟨#[]⟩) = t ∧ unhexOk (bytesL (strOfNums wv)) = k := ⟨_, _, rfl, rfl⟩
            obtain ⟨D, db, hD, hdb⟩ : ∃ t k, parsedL (strOfNums wb) = t ∧ parsedB (strOfNums wb) = k := ⟨_, _, rfl, rfl⟩
            obtain ⟨C, cb, hC, hcb⟩ : ∃ t k, parsedL MID = t ∧ parsedB MID = k := ⟨_, _, rfl, rfl⟩
            have s1 : rUnhexX.side (strOfNums wa, TK, kb) := ⟨by show (strOfNums wa).size ≤ _; rw [str_size]; omega, hTK, hkb⟩
            have s2 : rUnhexX.side (strOfNums wv, TV, vb) := ⟨by show (strOfNums wv).size ≤ _; rw [str_size]; omega, hTV, hvb⟩
            have s3 : dparseY.side (strOfNums wb, D, db) := ⟨by show (strOfNums wb).size ≤ _; rw [str_size]; omega, hD, hdb⟩
            have s4 : dparseY.side (MID, C, cb) := ⟨by show MID.size ≤ _; omega, hC, hcb⟩
            have hCl : C.length ≤ 100001 := by have := parsedL_le (s := MID); rw [hC] at this; omega
            rw [bytes_str oa] at hTK hkb
            rw [bytes_str ov] at hTV hvb
            have hTVl : (bytesL TV).length ≤ 100000 := by
              rw [bytesL_length, ← hTV]
              split
              · rw [str_size]; have := unhexL_le wv; omega
              · exact Nat.zero_le _
            have hTKl : TK.size ≤ 100000 := by
              rw [← hTK]
              split
              · rw [str_size]; have := unhexL_le wa; omega
              · exact Nat.zero_le _
            by_cases hgd : kb = true ∧ db = true ∧ cb = true ∧ ∃ r, D = [r] ∧ r.2.1 = r.2.2
            · obtain ⟨rfl, rfl, rfl, r, rfl, hr⟩ := hgd
              obtain ⟨g, hg⟩ : ∃ g, decide (strOfNums wv = goneS) = g := ⟨_, rfl⟩
              obtain ⟨d, hd⟩ : ∃ g, decide (strOfNums wv = strOfNums [46]) = g := ⟨_, rfl⟩
              obtain ⟨e, he⟩ : ∃ g, decide (TV = ⟨#[]⟩) = g := ⟨_, rfl⟩
              obtain ⟨i, hi⟩ : ∃ i, itemB (TK, (r.1, r.2.1), C, g, bif g || d then [] else bytesL TV) = i := ⟨_, rfl⟩
              rw [← hMID] at hC hcb
              obtain ⟨f5, f6⟩ := rip_fin hw hR0 (by omega) ov ⟨hp1, by rw [List.head?_eq_getElem?, b0, hp2], by rw [List.getLast?_eq_getElem?, bn, hp3]⟩ (by rw [hkb, if_pos rfl] at hTK; exact hTK) hkb hD hr hdb hC hcb hg hd hvb hTV he hi hbad hgood
              have f1 : ((strOfNums wv).toList == (⟨#[103, 111, 110, 101]⟩ : ByteArray).toList) = g := (str_beq (strOfNums wv) goneS).trans hg
              have f2 : ((strOfNums wv).toList == (⟨#[46]⟩ : ByteArray).toList) = d := (str_beq (strOfNums wv) (strOfNums [46])).trans hd
              have f3 : (TV.toList == (⟨#[]⟩ : ByteArray).toList) = e := (str_beq TV ⟨#[]⟩).trans he
              have s5 : irightU.side (TK, (r.1, r.2.1), C, g, bif g || d then [] else bytesL TV) := by
                refine ⟨by show TK.size ≤ _; omega, by show C.length ≤ _; omega, ?_⟩
                show (bif g || d then [] else bytesL TV).length ≤ _
                cases g <;> cases d <;> simp only [cond_true, cond_false, Bool.or_true, Bool.or_false, List.length_nil] <;> omega
              have ck : Hc rUnhexX (strOfNums wa, TK, true) (Hc dparseY (strOfNums wb, [r], true) (Hc dparseY (MID, C, true) (Hc rUnhexX (strOfNums wv, TV, vb) (Hc irightU (TK, (r.1, r.2.1), C, g, bif g || d then [] else bytesL TV) True)))) := ⟨⟨⟨⟨⟨trivial⟩⟩⟩⟩⟩
              have hl1 : [r].length = 1 := rfl
              clear hbad hgood hg hd he hMID hTK hTV hkb hvb hD hdb hC hcb b0 bn
              subst f5 f6
              have lm := And.intro hb0 (And.intro hbn (And.intro hx hr))
              (refine Zm ?_; repeat' (first | exact .intro | ((first | refine B1 (fun h => ?_) fun h => ?_ | refine B2 fun y he he' hy => ?_ | refine B3 fun y he hy => ?_ | refine B4 fun y hy => ?_ | refine B5 fun ck => ?_ | fail) <;> refine Zm ?_)))
              refine All'.mk ?_
              rintro (y : ByteArray) hy
              obtain rfl : strOfNums wa = y := Option.some.inj (ha0.symm.trans hy)
              clear hy
              (refine Zm ?_; repeat' (first | exact .intro | ((first | refine B1 (fun h => ?_) fun h => ?_ | refine B2 fun y he he' hy => ?_ | refine B3 fun y he hy => ?_ | refine B4 fun y hy => ?_ | refine B5 fun ck => ?_ | fail) <;> refine Zm ?_)))
              refine All'.mk ?_
              rintro (y : ByteArray) hy
              obtain rfl : strOfNums wb = y := Option.some.inj (ha1.symm.trans hy)
              clear hy
              (refine Zm ?_; repeat' (first | exact .intro | ((first | refine B1 (fun h => ?_) fun h => ?_ | refine B2 fun y he he' hy => ?_ | refine B3 fun y he hy => ?_ | refine B4 fun y hy => ?_ | refine B5 fun ck => ?_ | fail) <;> refine Zm ?_)))
              refine All'.mk ?_
              rintro (y : Run) hy
              obtain rfl : r = y := Option.some.inj hy
              clear hy
              (refine Zm ?_; repeat' (first | exact .intro | ((first | refine B1 (fun h => ?_) fun h => ?_ | refine B2 fun y he he' hy => ?_ | refine B3 fun y he hy => ?_ | refine B4 fun y hy => ?_ | refine B5 fun ck => ?_ | fail) <;> refine Zm ?_)))
              refine All'.mk ?_
              rintro (y : Run) hy
              obtain rfl : r = y := Option.some.inj hy
              clear hy
              (refine Zm ?_; repeat' (first | exact .intro | ((first | refine B1 (fun h => ?_) fun h => ?_ | refine B2 fun y he he' hy => ?_ | refine B3 fun y he hy => ?_ | refine B4 fun y hy => ?_ | refine B5 fun ck => ?_ | fail) <;> refine Zm ?_)))
              refine All'.mk ?_
              rintro (y : Run) hy
              obtain rfl : r = y := Option.some.inj hy
              clear hy
              (refine Zm ?_; repeat' (first | exact .intro | ((first | refine B1 (fun h => ?_) fun h => ?_ | refine B2 fun y he he' hy => ?_ | refine B3 fun y he hy => ?_ | refine B4 fun y hy => ?_ | refine B5 fun ck => ?_ | fail) <;> refine Zm ?_)))
              refine All'.mk ?_
              rintro (y : Run) hy
              obtain rfl : r = y := Option.some.inj hy
              clear hy
              (refine Zm ?_; repeat' (first | exact .intro | ((first | refine B1 (fun h => ?_) fun h => ?_ | refine B2 fun y he he' hy => ?_ | refine B3 fun y he hy => ?_ | refine B4 fun y hy => ?_ | refine B5 fun ck => ?_ | fail) <;> refine Zm ?_)))
              refine All'.mk ?_
              rintro (y : ByteArray) hy
              obtain rfl : strOfNums wv = y := Option.some.inj (hav.symm.trans hy)
              clear hy
              cases g <;> cases d <;> cases vb <;> cases e <;> cases i
              all_goals
                have lm := And.intro hb0 (And.intro hbn (And.intro hx (And.intro hr (And.intro f1 (And.intro f2 (And.intro f3 hi))))))
                (refine Z ?_; repeat' (first | exact .intro | ((first | refine B1 (fun h => ?_) fun h => ?_ | refine B2 fun y he he' hy => ?_ | refine B3 fun y he hy => ?_ | refine B4 fun y hy => ?_ | refine B5 fun ck => ?_ | fail) <;> refine Z ?_)))
            · obtain ⟨rfl, rfl⟩ := hbad (fun h => hgd (by
                obtain ⟨r, h1, h2⟩ := h.r
                have hm : rMid l = R0.tail.dropLast := by unfold rMid; rw [hpast]
                have a1 := h.k; have a2 := h.d; have a3 := h.c
                rw [hw.key, hkb] at a1
                rw [hw.dot, hdb] at a2
                rw [hm, hMID, hcb] at a3
                rw [hw.dot, hD] at h1
                exact ⟨a1, a2, a3, r, h1, h2⟩))
              have ck : Hc rUnhexX (strOfNums wa, TK, kb) (Hc dparseY (strOfNums wb, D, db) (Hc dparseY (MID, C, cb) True)) := ⟨⟨⟨trivial⟩⟩⟩
              clear hbad hgood
              have hLz : (4 : Int) ≤ L.length ∧ (L.length : Int) ≤ 100001 := by omega
              have lm := And.intro hb0 (And.intro hbn hx)
              (refine Zm ?_; repeat' (first | exact .intro | ((first | refine B1 (fun h => ?_) fun h => ?_ | refine B2 fun y he he' hy => ?_ | refine B3 fun y he hy => ?_ | refine B4 fun y hy => ?_ | refine B5 fun ck => ?_ | fail) <;> refine Zm ?_)))
              refine All'.mk ?_
              rintro (y : ByteArray) hy
              obtain rfl : strOfNums wa = y := Option.some.inj (ha0.symm.trans hy)
              clear hy
              (refine Zm ?_; repeat' (first | exact .intro | ((first | refine B1 (fun h => ?_) fun h => ?_ | refine B2 fun y he he' hy => ?_ | refine B3 fun y he hy => ?_ | refine B4 fun y hy => ?_ | refine B5 fun ck => ?_ | fail) <;> refine Zm ?_)))
              refine All'.mk ?_
              rintro (y : ByteArray) hy
              obtain rfl : strOfNums wb = y := Option.some.inj (ha1.symm.trans hy)
              clear hy
              (refine Zm ?_; repeat' (first | exact .intro | ((first | refine B1 (fun h => ?_) fun h => ?_ | refine B2 fun y he he' hy => ?_ | refine B3 fun y he hy => ?_ | refine B4 fun y hy => ?_ | refine B5 fun ck => ?_ | fail) <;> refine Zm ?_)))
              rcases D with _ | ⟨r, _ | ⟨r2, D⟩⟩
              · rename_i h
                exact absurd (Int.ofNat.inj h) (by decide)
              · refine All'.mk ?_
                rintro (y : Run) hy
                obtain rfl : r = y := Option.some.inj hy
                clear hy
                (refine Zm ?_; repeat' (first | exact .intro | ((first | refine B1 (fun h => ?_) fun h => ?_ | refine B2 fun y he he' hy => ?_ | refine B3 fun y he hy => ?_ | refine B4 fun y hy => ?_ | refine B5 fun ck => ?_ | fail) <;> refine Zm ?_)))
                refine All'.mk ?_
                rintro (y : Run) hy
                obtain rfl : r = y := Option.some.inj hy
                clear hy
                have hne : ¬ r.2.1 = r.2.2 := fun h => hgd ⟨by assumption, by assumption, by assumption, r, rfl, h⟩
                have hne2 : (r.2.1 != r.2.2) = true := bne_iff_ne.2 hne
                have lm := And.intro hne2 hne
                exact G1
              · rename_i h
                have : D.length + 2 = 1 := Int.ofNat.inj h
                omega
          · obtain ⟨rfl, rfl⟩ := hbad (fun h => by have := h.p.2.2; rw [hpast, List.getLast?_eq_getElem?, bn] at this; exact hp3 (Option.some.inj this))
            clear hbad hgood
            have lm := And.intro hb0 hbn
            exact G1
        · obtain ⟨rfl, rfl⟩ := hbad (fun h => by have := h.p.2.1; rw [hpast, List.head?_eq_getElem?, b0] at this; exact hp2 (Option.some.inj this))
          clear hbad hgood
          have lm := And.intro hb0 hbn
          exact G1
end Go.Proofs.YthmbdjhlfieldaaGreatDoor

set_option linter.unusedVariables false
set_option linter.unusedSimpArgs false
set_option maxRecDepth 100000
set_option maxHeartbeats 4000000
namespace Go.Proofs.YthmbdjhlfieldaaGreatDoor
open Go.Eng
@[reducible] def l16 (f : Nat → Int) : List Int := [f 0, f 1, f 2, f 3, f 4, f 5, f 6, f 7, f 8, f 9, f 10, f 11, f 12, f 13, f 14, f 15]
theorem l16_okB {f : Nat → Int} (h : ∀ j, 0 ≤ f j ∧ f j < 256) : okB (l16 f) := fun c hc => by
  simp only [l16, List.mem_cons, List.not_mem_nil, or_false] at hc
  rcases hc with rfl | rfl | rfl | rfl | rfl | rfl | rfl | rfl | rfl | rfl | rfl | rfl | rfl | rfl | rfl | rfl <;> exact h _
@[reducible] def ihexC : Ctr := {
  X := Nat → Int
  Y := Unit
  args := fun f => [.agg (mk16 f)]
  rw := fun _ => []
  side := fun f => ∀ j, 0 ≤ f j ∧ f j < 256
  val := fun _ => ()
  ens := fun _ _ => True
  res := fun f _ => .v (.string (strOfNums (hexL (l16 f))))
  out := fun _ _ => [] }
theorem knownIhx : Known Tryz.prog (gOf [(43, hexesV)]) := known_cons ⟨hexes_ok, Tryz.call43⟩ (known_nil _)
theorem ihex_ok : ihexC.ok Tryz.prog 26 := by
  refine ok_of_vc (An := fun _ => anOf []) knownIhx mo Tryz.func26 (by kernel_rfl) (by kernel_rfl) (fun _ _ => trivial) (fun (f : Nat → Int) hs => ?_)
  have ks : hexesV.side (l16 f) := ⟨l16_okB hs, by show (16 : Nat) ≤ _; omega⟩
  have ck : Hc hexesV (l16 f) True := ⟨trivial⟩
  exact G1
@[reducible] def greatX : Ctr := { greatC with Y := Unit, X := List Item × Int, args := fun x => [.ro false itemT x.1], rw := fun _ => [], side := fun x => (x.1.length ≤ 9223372036854775807 ∧ ∀ i, i ∈ x.1 → itemL i) ∧ greatF 0 x.1 = x.2, val := fun _ => (), ens := fun _ _ => True, res := fun x _ => .v (.int .i64 x.2), out := fun _ _ => [] }
theorem greatX_ok : greatX.ok Tryz.prog 8 := ctr_re (C := greatC) (C' := greatX) (fun x => x.1) (fun x h => ⟨h.1, trivial, rfl, rfl, by show SV.v (.int .i64 x.2) = SV.v (.int .i64 (greatF 0 x.1)); rw [h.2], rfl⟩) great_ok
end Go.Proofs.YthmbdjhlfieldaaGreatDoor

set_option linter.unusedVariables false
set_option linter.unusedSimpArgs false
set_option maxRecDepth 100000
set_option maxHeartbeats 4000000
namespace Go.Proofs.YthmbdjhlfieldaaGreatDoor
open Go.Eng
@[reducible] def fX : Item := (⟨#[107]⟩, (0, 3), [(1, 2, 2)], false, [118, 49])
@[reducible] def fY : Item := (⟨#[107]⟩, (1, 2), [], true, [])
@[reducible] def fT : ByteArray := ⟨#[54, 98, 32, 48, 58, 51, 32, 91, 49, 58, 50, 93, 32, 55, 54, 51, 49]⟩
theorem fX_okB : okB fX.2.2.2.2 := fun c hc => by simp at hc; omega
theorem fY_okB : okB fY.2.2.2.2 := fun c hc => nomatch hc
theorem fX_ok : itemB fX = true := by decide
theorem fXY : aboveI fX fY = true := by decide +kernel
theorem fYX : aboveI fY fX = false := by decide +kernel
theorem fX_text : strOfNums (itemTx fX) = fT := by decide +kernel
theorem fX_text2 : strOfNums (textI fX) = fT := by unfold textI; rw [fX_ok, if_pos rfl]; exact fX_text
theorem fX_cmp : cmpIt fX fY = -1 := by decide +kernel
theorem fX_mark : imkF fX 0 ≠ imkF fY 0 := by decide +kernel
open Classical in
theorem fT_read : vI fT = fX ∧ vB fT = true := by
  obtain ⟨h1, h2⟩ := vOk_iff (s := fT) fX_ok fX_okB fX_text
  unfold vI vB
  exact ⟨(if_pos h1).trans h2, decide_eq_true h1⟩
@[reducible] def ibytesX : Ctr := {
  X := Item × List Int
  Y := Unit
  args := fun x => [itemV x.1]
  rw := fun _ => []
  side := fun x => itemL x.1 ∧ itemBs x.1 = x.2
  val := fun _ => ()
  ens := fun _ _ => True
  res := fun _ _ => .sl 1000
  out := fun x _ => [(1000, .row 5 (.int .u8) x.2)] }
theorem ibytesX_ok : ibytesX.ok Tryz.prog 16 := ctr_re (C := ibytesV) (C' := ibytesX) (fun x => x.1) (fun x h => ⟨h.1, trivial, rfl, rfl, rfl, by show [(1000, Ent.row 5 (.int .u8) x.2)] = [(1000, Ent.row 5 (.int .u8) (itemBs x.1))]; rw [h.2]⟩) ibytesV_ok
@[reducible] def ver1C : Ctr := {
  X := Unit
  Y := Unit
  args := fun _ => []
  rw := fun _ => []
  side := fun _ => True
  val := fun _ => ()
  ens := fun _ _ => True
  res := fun _ _ => .v (.bool true)
  out := fun _ _ => [] }
theorem knownV0x : Known Tryz.prog (gOf [(9, iparseX), (16, ibytesX), (15, ireadC), (14, irightU), (17, iaboveC), (11, itextX), (13, isameC), (24, imarkV), (18, icmpC), (26, ihexC)]) :=
  known_cons ⟨iparse_ok, Tryz.call9⟩ (known_cons ⟨ibytesX_ok, Tryz.call16⟩ (known_cons ⟨iread_ok, Tryz.call15⟩ (known_cons ⟨iright_re iright_ok, Tryz.call14⟩ (known_cons ⟨iabove_ok, Tryz.call17⟩
    (known_cons ⟨itextX_re itext_ok, Tryz.call11⟩ (known_cons ⟨isame_ok, Tryz.call13⟩ (known_cons ⟨imarkV_ok, Tryz.call24⟩ (known_cons ⟨icmp_ok, Tryz.call18⟩ (known_cons ⟨ihex_ok, Tryz.call26⟩ (known_nil _))))))))))
theorem ver1_ok : ver1C.ok Tryz.prog 7 := by
  refine ok_of_vc (An := fun _ => anOf []) knownV0x mo Tryz.func7 (by kernel_rfl) (by kernel_rfl) (fun _ _ => trivial) (fun (_ : Unit) hs => ?_)
  clear hs
  have zX : itemZ fX := ⟨⟨by decide, by decide, by decide⟩, fX_okB⟩
  have zY : itemZ fY := ⟨⟨by decide, by decide, by decide⟩, fY_okB⟩
  have hbs : itemBs fX = itemBy fX := by unfold itemBs; rw [fX_ok]; rfl
  obtain ⟨Z1, hZ⟩ : ∃ z, z = fX := ⟨_, rfl⟩
  obtain ⟨B, hB⟩ : ∃ B, itemBs fX = B := ⟨_, rfl⟩
  have zZ : itemZ Z1 := by rw [hZ]; exact zX
  have s1 : iparseX.side (fT, Z1, true) := ⟨(by decide : fT.size ≤ 100000), by rw [hZ]; exact fT_read.1, fT_read.2⟩
  have hr := read_bytes fX_ok
  rw [← hbs, hB, ← hZ] at hr
  have hle : (itemBy fX).length ≤ 28000 := itemBy_le fX_ok
  have s2 : ireadC.side ⟨B, Z1, 0⟩ := ⟨⟨by rw [← hB, hbs]; exact okB_by fX_ok fX_okB, by show B.length ≤ _; rw [← hB, hbs]; omega⟩, hr⟩
  have s11 : ibytesX.side (fX, B) := ⟨zX.1, hB⟩
  have s3 : iaboveC.side (fX, fY) := ⟨zX, zY⟩
  have s4 : iaboveC.side (fY, fX) := ⟨zY, zX⟩
  have s5 : itextX.side (fX, fT) := ⟨zX, fX_text2⟩
  have s6 : isameC.side (Z1, fX) := ⟨zZ, zX⟩
  have s7 : imarkV.side fX := zX
  have s8 : imarkV.side fY := zY
  have s9 : icmpC.side (fX, fY) := ⟨zX.1, zY.1⟩
  have s10 : ihexC.side (fun _ => 0) := fun _ => ⟨Int.le_refl _, (by decide : (0 : Int) < 256)⟩
  have d1 : decide (Z1 = fX) = true := decide_eq_true hZ
  have d2 := fX_ok
  have d3 := fXY
  have d4 := fYX
  have d5 : (fT.toList == fT.toList) = true := beq_self_eq_true _
  have d6 : (imkF fX 0 == imkF fY 0) = false := beq_eq_false_iff_ne.2 fX_mark
  have d7 := fX_cmp
  have d8 : (strOfNums (hexL (l16 fun _ => 0))).size = 32 := by rw [str_size]; rfl
  have ck : Hc iparseX (fT, Z1, true) (Hc ibytesX (fX, B) (Hc ireadC ⟨B, Z1, 0⟩ (Hc irightU fX (Hc iaboveC (fX, fY) (Hc iaboveC (fY, fX) (Hc itextX (fX, fT) (Hc isameC (Z1, fX) (Hc isameC (Z1, fX) (Hc imarkV fX (Hc imarkV fY (Hc icmpC (fX, fY) (Hc ihexC (fun _ => 0) True)))))))))))) := ⟨⟨⟨⟨⟨⟨⟨⟨⟨⟨⟨⟨⟨trivial⟩⟩⟩⟩⟩⟩⟩⟩⟩⟩⟩⟩⟩
  clear hZ hr hle hbs hB
  have lm := And.intro d1 (And.intro d2 (And.intro d3 (And.intro d4 (And.intro d5 (And.intro d6 (And.intro d7 (And.intro d8 Bool.false_and)))))))
  exact G1
end Go.Proofs.YthmbdjhlfieldaaGreatDoor

set_option linter.unusedVariables false
set_option linter.unusedSimpArgs false
set_option maxRecDepth 100000
set_option maxHeartbeats 4000000
namespace Go.Proofs.YthmbdjhlfieldaaGreatDoor
open Go.Eng
open Classical in
theorem vI_Z (s : ByteArray) : itemZ (vI s) := by
  unfold vI
  by_cases h : vOk s
  · rw [if_pos h]
    have hi := (vOk_item h).1
    have hv := vItem_okB s
    generalize vItem s = x at hi hv
    obtain ⟨k, ⟨m, n⟩, c, g, v⟩ := x
    obtain ⟨⟨k1, k2⟩, k3, k4, ⟨k5, k6⟩, ⟨k7, k8⟩, k9, k10⟩ := item_ok hi
    exact ⟨⟨by show k.size ≤ _; omega, by show c.length ≤ _; omega, by show v.length ≤ _; omega⟩, hv⟩
  · rw [if_neg h]
    exact ⟨⟨by show (0 : Nat) ≤ _; omega, by show (0 : Nat) ≤ _; omega, by show (0 : Nat) ≤ _; omega⟩, fun c hc => nomatch hc⟩
@[reducible] def vtxC : Ctr := {
  X := Item × ByteArray
  Y := Unit
  args := fun x => [itemA x.1, .v (.string x.2)]
  rw := fun _ => []
  side := fun x => itemZ x.1 ∧ x.2.size ≤ 9223372036854775807
  val := fun _ => ()
  ens := fun _ _ => True
  res := fun _ _ => .v (.bool true)
  out := fun _ _ => [] }
theorem knownVw : Known Tryz.prog (gOf [(7, ver1C), (8, greatX), (9, iparseX), (10, iparseX), (11, itextX), (12, itextX), (13, isameC)]) :=
  known_cons ⟨ver1_ok, Tryz.call7⟩ (known_cons ⟨greatX_ok, Tryz.call8⟩ (known_cons ⟨iparse_ok, Tryz.call9⟩ (known_cons ⟨riparse_ok, Tryz.call10⟩ (known_cons ⟨itextX_re itext_ok, Tryz.call11⟩
    (known_cons ⟨itextX_re ritext_ok, Tryz.call12⟩ (known_cons ⟨isame_ok, Tryz.call13⟩ (known_nil _)))))))
theorem vtx_ok : vtxC.ok Tryz.prog 3 := by
  refine ok_of_vc (An := fun _ => anOf []) knownVw mo Tryz.func3 (by kernel_rfl) (by kernel_rfl) (fun _ _ => trivial) (fun (x : Item × ByteArray) hs => ?_)
  obtain ⟨x, s⟩ := x
  obtain ⟨hz, hs⟩ := hs
  have hs : s.size ≤ 9223372036854775807 := hs
  obtain ⟨n, hn⟩ : ∃ n, greatF 0 [x] = n := ⟨_, rfl⟩
  obtain ⟨it, b, hI, hB⟩ : ∃ it b, vI s = it ∧ vB s = b := ⟨_, _, rfl, rfl⟩
  obtain ⟨T, hT⟩ : ∃ T, strOfNums (textI x) = T := ⟨_, rfl⟩
  have hiz : itemZ it := by rw [← hI]; exact vI_Z s
  have s1 : greatX.side ([x], n) := ⟨⟨by show (1 : Nat) ≤ _; omega, fun i hi => by rcases List.mem_singleton.1 hi with rfl; exact hz.1⟩, hn⟩
  have s2 : itextX.side (x, T) := ⟨hz, hT⟩
  have s3 : isameC.side (it, it) := ⟨hiz, hiz⟩
  have d1 : decide (it = it) = true := decide_eq_true rfl
  by_cases hsz : 1000 < s.size
  · obtain ⟨k, ⟨u, w⟩, c, g, v⟩ := x
    have ck : Hc ver1C () (Hc greatX ([(k, (u, w), c, g, v)], n) True) := ⟨⟨trivial⟩⟩
    exact G1
  · have s4 : iparseX.side (s, it, b) := ⟨by show s.size ≤ 100000; omega, hI, hB⟩
    obtain ⟨k, ⟨u, w⟩, c, g, v⟩ := x
    have ck : Hc ver1C () (Hc greatX ([(k, (u, w), c, g, v)], n) (Hc iparseX (s, it, b) (Hc iparseX (s, it, b) (Hc itextX ((k, (u, w), c, g, v), T) (Hc itextX ((k, (u, w), c, g, v), T) (Hc isameC (it, it) True)))))) := ⟨⟨⟨⟨⟨⟨⟨trivial⟩⟩⟩⟩⟩⟩⟩
    clear hI hB hT hn
    have lm := And.intro d1 (And.intro beqB (And.intro beqI beqL))
    exact G1
end Go.Proofs.YthmbdjhlfieldaaGreatDoor

set_option linter.unusedVariables false
set_option linter.unusedSimpArgs false
set_option maxRecDepth 100000
namespace Go.Proofs.YthmbdjhlfieldaaGreatDoor
open Go.Eng
end Go.Proofs.YthmbdjhlfieldaaGreatDoor

set_option linter.unusedVariables false
set_option linter.unusedSimpArgs false
set_option maxRecDepth 100000
namespace Go.Proofs.YthmbdjhlfieldaaGreatDoor
open Go.Eng
theorem join_rt {a b : List Run} (ha : Rt a) (hb : Rt b) : joinF a b = joinL a b ∧ Rt (joinF a b) ∧ ∀ d, inC (joinF a b) d ↔ inC a d ∨ inC b d := by
  have e : joinF a b = joinL a b := by unfold joinF; rw [right_iff.2 ha, right_iff.2 hb]; rfl
  rw [e]
  exact ⟨rfl, (join_ok b a ha hb.all).1, (join_ok b a ha hb.all).2⟩
theorem above_rt {a b : List Run} (ha : Rt a) (hb : Rt b) : aboveF a b = true ↔ ∀ d, inC b d → inC a d := by
  rw [← below_iff hb ha]
  unfold aboveF cmpF
  rw [right_iff.2 ha, right_iff.2 hb]
  cases belowB a b <;> cases belowB b a <;> decide
theorem least {a b c : List Run} (ha : Rt a) (hb : Rt b) (hc : Rt c) : aboveF (joinF a b) a = true ∧ aboveF (joinF a b) b = true ∧ (aboveF c a = true → aboveF c b = true → aboveF c (joinF a b) = true) ∧
    joinF a b = joinF b a ∧ joinF (joinF a b) c = joinF a (joinF b c) ∧ joinF a a = a ∧ (aboveF a b = true → aboveF b a = true → a = b) := by
  obtain ⟨-, j1, j2⟩ := join_rt ha hb
  obtain ⟨-, k1, k2⟩ := join_rt hb ha
  obtain ⟨-, l1, l2⟩ := join_rt j1 hc
  obtain ⟨-, m1, m2⟩ := join_rt hb hc
  obtain ⟨-, n1, n2⟩ := join_rt ha m1
  obtain ⟨-, o1, o2⟩ := join_rt ha ha
  rw [above_rt j1 ha, above_rt j1 hb, above_rt hc ha, above_rt hc hb, above_rt hc j1, above_rt ha hb, above_rt hb ha]
  refine ⟨fun d h => (j2 d).2 (.inl h), fun d h => (j2 d).2 (.inr h), fun h1 h2 d h => ((j2 d).1 h).elim (h1 d) (h2 d), clk_uniq _ _ j1 k1 (fun d => ?_), clk_uniq _ _ l1 n1 (fun d => ?_), clk_uniq _ _ o1 ha (fun d => ?_), fun h1 h2 => clk_uniq _ _ ha hb (fun d => ⟨h2 d, h1 d⟩)⟩
  · rw [j2, k2, or_comm]
  · rw [l2, j2, n2, m2, or_assoc]
  · rw [o2, or_self]
end Go.Proofs.YthmbdjhlfieldaaGreatDoor

set_option linter.unusedVariables false
set_option linter.unusedSimpArgs false
set_option maxRecDepth 100000
set_option maxHeartbeats 4000000
namespace Go.Proofs.YthmbdjhlfieldaaGreatDoor
open Go.Eng
end Go.Proofs.YthmbdjhlfieldaaGreatDoor

set_option linter.unusedVariables false
set_option linter.unusedSimpArgs false
set_option maxRecDepth 100000
set_option maxHeartbeats 40000000
namespace Go.Proofs.YthmbdjhlfieldaaGreatDoor
open Go.Eng
end Go.Proofs.YthmbdjhlfieldaaGreatDoor

set_option linter.unusedVariables false
set_option linter.unusedSimpArgs false
set_option maxRecDepth 100000
set_option maxHeartbeats 4000000
namespace Go.Proofs.YthmbdjhlfieldaaGreatDoor
open Go.Eng
end Go.Proofs.YthmbdjhlfieldaaGreatDoor

set_option linter.unusedVariables false
set_option linter.unusedSimpArgs false
namespace Go.Proofs.YthmbdjhlfieldaaGreatDoor
open Go.Eng
theorem okY_T {l : List Int} (h : okT (.sl (.int .u8)) l) : okY l := fun c hc => by
  have h2 := h.2 c hc
  have h3 : IntKind.u8.min ≤ c ∧ c ≤ IntKind.u8.max := h2
  have e1 : IntKind.u8.min = 0 := rfl
  have e2 : IntKind.u8.max = 255 := rfl
  omega
theorem okZ_T {x : Item} (h : okT itemT x) : itemZ x := ⟨⟨h.1, h.2.2.1.1, h.2.2.2.2.1⟩, okY_T h.2.2.2.2⟩
end Go.Proofs.YthmbdjhlfieldaaGreatDoor

/-! The engine, part Y: what a row's list of package-level variables gives. -/
set_option linter.unusedVariables false
namespace Go.Eng
variable [DM]
set_option linter.unusedSectionVars false

theorem laid_mem {P : Program} {W : World} {name : String} {d : DataW Unit} : ∀ {l : List (String × DataW Unit)} {ps : List MemPlace}, DataW.LaidVars P W l ps → (name, d) ∈ l →
    ∃ g t cs fuel p, P.globalNamed name = some g ∧ (P.globals[g]?).map (·.type) = some t ∧ W.var? P name = some cs ∧ DataW.trod (fun _ => ()) P W 0 (fun _ => true) false fuel t cs.toList = some (d, p)
  | [], _, _, h => by cases h
  | (n, e) :: l, ps, hl, h => by
    obtain ⟨g, t, cs, fuel, p, q, h1, h2, h3, h4, h5, _⟩ := hl
    rcases List.mem_cons.1 h with heq | h
    · obtain ⟨rfl, rfl⟩ := Prod.mk.inj heq
      exact ⟨g, t, cs, fuel, p, h1, h2, h3, h4⟩
    · exact laid_mem h5 h

theorem var_block {P : Program} {W : World} {name : String} {g : Nat} {cs : Array Value} (hg : P.globalNamed name = some g) (h : W.var? P name = some cs) :
    g < W.heap.size ∧ ∃ t fz, W.heap[g]? = some (.cells cs t fz) := by
  unfold World.var? at h
  rw [hg] at h
  simp only [Option.bind_some] at h
  split at h
  · rename_i cs' t fz hh
    obtain rfl := Option.some.inj h
    exact ⟨(Array.getElem?_eq_some_iff.1 hh).1, t, fz, hh⟩
  · cases h

/-- A table of numbers on the list. -/
theorem laid_tab {P : Program} {W : World} {l : List (String × DataW Unit)} {name : String} {k : IntKind} {zs : List Int} {g : Nat} {t e : TypeId} {n : Nat} {d : DataW Unit}
    (hp : (l.filter fun x => x.2.handleName?.isSome) = []) (hd : d = Go.Lib.tabData k zs)
    (hm : (name, d) ∈ l) (hg : P.globalNamed name = some g) (hty : (P.globals[g]?).map (·.type) = some t) (ht : P.underlying t = some (.array n e)) (he : P.underlying e = some (.int k)) (hce : P.cellsOf e = 1) (hct : P.cellsOf t = n)
    (h : laidMetH P l W) : (startE W).I g ∧ ∃ (a : Array Value) (t : TypeId) (fz : Nat × Nat), W.heap[g]? = some (.cells a t fz) ∧ a = (zs.map fun z => Value.int k z).toArray := by
  have h : laidMet P l W := by
    unfold laidMetH at h
    rw [hp] at h
    exact h
  obtain ⟨ps, hl, _⟩ := h
  obtain ⟨g', t', cs, fuel, p, hg', ht', hv, htr⟩ := laid_mem hl hm
  subst hd
  obtain rfl := Option.some.inj (hg.symm.trans hg')
  obtain rfl := Option.some.inj (hty.symm.trans ht')
  obtain ⟨h1, t2, fz, h2⟩ := var_block hg hv
  exact ⟨h1, cs, t2, fz, h2, by rw [← Go.Lib.cells_of_tab ht he hce hct htr]⟩

/-- A variable of an interface's type on the list. -/
theorem laid_iface {P : Program} {W : World} {l : List (String × DataW Unit)} {name nm : String} {g : Nat} {t : TypeId} {ms : Array (String × TypeId)} {d : DataW Unit}
    (hp : (l.filter fun x => x.2.handleName?.isSome) = []) (hm : (name, .iface nm d) ∈ l) (hg : P.globalNamed name = some g) (hty : (P.globals[g]?).map (·.type) = some t) (ht : P.underlying t = some (.interface ms))
    (h : laidMetH P l W) : (startE W).I g ∧ ∃ (a : Array Value) (t : TypeId) (fz : Nat × Nat), W.heap[g]? = some (.cells a t fz) ∧ ∃ te pe, a = #[.iface te pe] := by
  have h : laidMet P l W := by
    unfold laidMetH at h
    rw [hp] at h
    exact h
  obtain ⟨ps, hl, _⟩ := h
  obtain ⟨g', t', cs, fuel, p, hg', ht', hv, htr⟩ := laid_mem hl hm
  obtain rfl := Option.some.inj (hg.symm.trans hg')
  obtain rfl := Option.some.inj (hty.symm.trans ht')
  obtain ⟨h1, t2, fz, h2⟩ := var_block hg hv
  refine ⟨h1, cs, t2, fz, h2, ?_⟩
  obtain ⟨lc⟩ := cs
  cases fuel with
  | zero => simp [DataW.trod] at htr
  | succ fuel =>
    unfold DataW.trod at htr
    simp only [ht] at htr
    split at htr
    all_goals first
      | (cases htr; done)
      | (exact ⟨_, _, rfl⟩)
      | simp_all

/-- A variable that is some integer. -/
theorem shaped_int {P : Program} {W : World} {g : Nat} {t : TypeId} {zero : Array Value} {k : IntKind} (h : W.ShapedOpen P) (hg : g < P.globals.size)
    (h0 : ((begin P (fun _ _ => 0) default).world.heap[g]?).bind Obj.row? = some (zero, t)) (hz : zero.size = 1) (hb : P.buildable t = true) (hc : P.cellTypes P.depth t = some [t]) (hu : P.underlying t = some (.int k)) :
    (startE W).I g ∧ ∃ (a : Array Value) (t : TypeId) (fz : Nat × Nat), W.heap[g]? = some (.cells a t fz) ∧ ∃ m, a = #[.int k m] := by
  obtain ⟨cs, hh, hs, hr⟩ := h.1 g zero t hg h0
  obtain ⟨ts, hts, _, hall⟩ := hr hb
  rw [hc] at hts
  cases hts
  have h1 : 0 < cs.size := by omega
  obtain ⟨u, hu', hok⟩ := hall 0 cs[0] (by simp [h1])
  have : u = t := by simpa using hu'.symm
  subst this
  refine ⟨(Array.getElem?_eq_some_iff.1 hh).1, cs, _, _, hh, ?_⟩
  unfold Cell.ok at hok
  rw [hu] at hok
  cases hv : cs[0] <;> rw [hv] at hok <;> simp at hok
  case int k' n =>
    refine ⟨n, Array.ext (by simp; omega) (fun i hi hi' => ?_)⟩
    obtain rfl : i = 0 := by simp at hi'; exact hi'
    rw [hv, hok.1]; rfl

/-- The row's frame, with a list of variables and the form of the world. -/
theorem handed_both {H : Type} {enc : TypeId × Value → H} {a : Assume} {C : Checked} {os : Os} {f : FuncId} {fn : Func} {s : ChangeSpec} {conds : List PathCond} {apart fresh handsOn again : Bool} {X : World → Array Value → Prop}
    (hX : ∀ (w w' : World) (args : Array Value), w.heap = w'.heap → X w args → X w' args)
    (own : ownKnob C.prog.godebug = none) (started : os.Started) (noInit : C.prog.inits.idxOf? f = none) (hfn : C.prog.funcs[f]? = some fn)
    (witness : ∃ (w : World) (tape : Tape) (i : Input), w.os = os ∧ (w.forCall tape i).Shaped C.prog ∧ i.vars = [] ∧ Input.okWide C.prog (w.forCall tape i) .any w.heap.size f i ∧
      ((s.pre enc C.prog fn conds apart (w.forCall tape i).memory i.args ∧ X (w.forCall tape i).memory i.args) ∧ sizedMet enc C.prog fn (OpenSpec.ofChange s) apart (w.forCall tape i).memory i.args) ∧ a.holds C.prog (lone (Frame.enter C.prog f i.args .normal) [] (w.forCall tape i)))
    (contract : ∀ (W : World) (base : Nat) (args : Array Value) (ds gs : List (DataW H)) (before : List MemPlace),
      (∀ (j : Nat) t v, fn.params[j]? = some t → args[j]? = some v → Value.okWide C.prog W .any base t v) →
      DataW.Whole enc C.prog fn.params.toList s.vars apart W args.toList ds gs before → X W args → W.ShapedOpen C.prog →
      Calls C.prog f args W fun e W' => ∃ v, e = .returned v ∧ s.post enc C.prog fn apart fresh handsOn again W args v W') :
    ReturnsInHanded a C os f .any (fun w args => (s.pre enc C.prog fn conds apart w args ∧ X w args) ∧ sizedMet enc C.prog fn (OpenSpec.ofChange s) apart w args) (s.post enc C.prog fn apart fresh handsOn again) := by
  refine returnsInHanded_of_calls own started noInit witness ?_
  intro w tape i _ hsh _ hok hpre _
  obtain ⟨_, _, _, fn', hfn', _, _, _, _, hval⟩ := hok
  have e : fn' = fn := Option.some.inj (hfn'.symm.trans hfn)
  subst e
  obtain ⟨⟨⟨ds, gs, before, hw, _⟩, hx⟩, _⟩ := hpre
  refine (contract (w.forCall tape i) w.heap.size i.args ds gs before hval (DataW.Whole.of_heap (w' := w.forCall tape i) (by rfl) hw) (hX _ _ _ (by rfl) hx) hsh).mono fun e W' ⟨v, he, hp⟩ => ?_
  subst he
  exact ChangeSpec.post_blind hp

end Go.Eng
