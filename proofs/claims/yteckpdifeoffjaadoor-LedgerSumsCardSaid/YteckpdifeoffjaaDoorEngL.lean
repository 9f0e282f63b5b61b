/- The engine, part L: append. -/
import Derived.Test.YteckpdifeoffjaaDoorEngK
import Derived.Laws.Append
import Derived.Laws.AppendOwn
set_option linter.unusedVariables false
namespace Go.Eng

section
variable {r : Option Nat} {P : Program} {G : Nat → Option Ctr} {o : Oper} {T : Tm} {M : En} {lo : Nat} {Kp : SV → List Nat → Prop} {Kg : SV → List Nat → List Nat → En → Prop}

theorem szOf_info {t : TypeId} {n : Nat} (h : szOf P t = some n) : ∃ i, P.info? t = some i ∧ i.size = n := by
  unfold szOf at h
  split at h
  · rename_i i hi; exact ⟨i, hi, by simpa using h⟩
  · cases h

theorem appOk_spec {e : TypeId} {t : Ty} (h : appOk P e t = true) : ∃ i zs, P.info? e = some i ∧ i.size = t.size ∧ i.bytes ≤ 400 ∧ zeroOf P e = some zs ∧ zs.length = t.size := by
  unfold appOk at h
  split at h
  · rename_i n b zs h1 h2 h3
    simp only [Bool.and_eq_true] at h
    obtain ⟨i, hi, rfl⟩ := szOf_info h1
    unfold byOf at h2
    rw [hi] at h2
    obtain rfl := Option.some.inj h2
    have e1 := Nat.eq_of_beq_eq_true h.1.1
    have e3 := Nat.eq_of_beq_eq_true h.2
    exact ⟨i, zs, hi, e1, Nat.le_of_ble_eq_true h.1.2, h3, by omega⟩
  · cases h

theorem isIntT_spec {t : TypeId} (h : isIntT P t = false) : (∃ e, P.underlying t = some (.slice e)) ∨ P.underlying t = some .string := by
  unfold isIntT at h
  split at h
  · rename_i e hd; exact .inl ⟨e, hd⟩
  · rename_i hd; exact .inr hd
  · cases h

set_option maxHeartbeats 1000000 in
theorem run_append_room {ts tx ty e : TypeId} {i : TypeInfo} (ht : P.underlying ts = some (.slice e)) (hx : isIntT P tx = false) (hi : P.info? e = some i)
    {base : Option Addr} {sLen sCap n c : Nat} {ax : Option Addr} {new : Array Value} {w w' : World} (hroom : sLen + n ≤ sCap)
    (hn : (Builtin.firstCells i.size n (.slice ax n c)).run P w = .ok new w)
    (hs : (match base with | some a => storeCells (a.add (sLen * i.size)) new.toList | none => (pure () : Sem Unit)).run P w = .ok () w') :
    (Builtin.append_ #[ts, tx] ty #[.slice base sLen sCap, .slice ax n c]).run P w = .ok (.slice base (sLen + n) sCap) w' := by
  rcases isIntT_spec hx with ⟨e', hd⟩ | hd
  all_goals
    cases base <;> simp [Builtin.append_, run_underlying ht, run_underlying hd, sizeOf, typeInfo, hi, Builtin.lenOf, hroom, hn] at hs ⊢ <;> simp [hs]

set_option maxHeartbeats 1000000 in
theorem run_append_grow {ts tx ty e : TypeId} {i : TypeInfo} {zs : List Value} (ht : P.underlying ts = some (.slice e)) (hx : isIntT P tx = false) (hi : P.info? e = some i) (hb : i.bytes ≤ 400)
    (hz : zeroOf P e = some zs)
    {base : Option Addr} {sLen sCap n c : Nat} {ax : Option Addr} {old new : Array Value} {w : World} (hroom : sCap < sLen + n) (hlim : sLen + n ≤ 274877906944)
    (hn : ∀ w', w'.heap = w.heap → (Builtin.firstCells i.size n (.slice ax n c)).run P w' = .ok new w')
    (ho : ∀ w', w'.heap = w.heap → (Builtin.firstCells i.size sLen (.slice base sLen sCap)).run P w' = .ok old w') :
    ∃ cap rest w', sLen + n ≤ cap ∧ rest.size = (cap - (sLen + n)) * zs.length ∧
    (Builtin.append_ #[ts, tx] ty #[.slice base sLen sCap, .slice ax n c]).run P w = .ok (.slice (some ⟨w.heap.size, 0, none⟩) (sLen + n) cap) w' ∧
    w'.heap = w.heap.push (.cells (old ++ new ++ rest) e) ∧ w'.os = w.os ∧ w'.tape = w.tape ∧ w'.output = w.output := by
  have hx' := isIntT_spec hx
  obtain ⟨zv, hzr, hzl⟩ := run_zeroValue hz (w.drew)
  have hfit : Builtin.nextslicecap (sLen + n) sCap * i.bytes ≤ 281474976710656 := growslice_fits hroom (by
    have := Nat.mul_le_mul hlim hb; omega)
  have hn' : ¬ (sLen + n ≤ sCap) := by omega
  have h63' : ¬ (9223372036854775807 < ((sLen : Int) + (n : Int))) := by omega
  have h48' : ¬ (281474976710656 < Builtin.nextslicecap (sLen + n) sCap * i.bytes) := by omega
  have hq : (Question.appendCap (sLen + n) sCap e).forced = false := rfl
  have h1 := hn w.drew rfl
  have h2 := ho w.drew rfl
  refine ⟨grownCap w (sLen + n) sCap e, Builtin.zeroCells zv.cells (grownCap w (sLen + n) sCap e - (sLen + n)), w.drew.alloc (.cells (old ++ new ++ Builtin.zeroCells zv.cells (grownCap w (sLen + n) sCap e - (sLen + n))) e), grownCap_ge _ _ _ _, by
    rw [size_zeroCells, ← hzl]; simp, ?_, rfl, rfl, rfl, rfl⟩
  rcases hx' with ⟨e', hd⟩ | hd
  all_goals
    simp [Builtin.append_, run_underlying ht, run_underlying hd, sizeOf, typeInfo, hi, Builtin.lenOf, hn', h63', h48', hq, h1, h2, hzr, newRow, grownCap]

theorem flatF_append {α : Type} (f : α → List SV) : ∀ (a b : List α), flatF f (a ++ b) = flatF f a ++ flatF f b
  | [], b => rfl
  | x :: a, b => by simp [flatF, flatF_append f a b]

open Classical in
noncomputable def tradeFp (fp : Nat → Nat → Prop) (ci : List Nat) (lo : Nat) (F : Nat → Prop) : Nat → Nat → Prop := fun j => if j = lo then F else if j ∈ ci then fun _ => False else fp j

/-- Some names are given up for a new one. -/
theorem EntsSat.trade {E : Env} {w w' : World} {fp : Nat → Nat → Prop} {M : En} {ci : List Nat} {lo : Nat} {s : Slot} {e : Ent} {F : Nat → Prop} (h : EntsSat E w fp M) (hlo : E.slot lo = none)
    (hF : ∀ b, F b → (∃ i, i ∈ ci ∧ fp i b) ∨ (w.heap.size ≤ b ∧ b < w'.heap.size))
    (hk : Keep (fun b => ∃ i, i ∈ ci ∧ fp i b) w w') (he : EntSat (E.with lo s) w' F lo e) :
    EntsSat (E.with lo s) w' (tradeFp fp ci lo F) (upd [(lo, e)] ci M) ∧ Adv E fp w (E.with lo s) (tradeFp fp ci lo F) w' := by
  have hkeep : Keep (own fp) w w' := hk.mono (fun b ⟨i, _, hf⟩ => ⟨i, hf⟩)
  have hst := h.stays hkeep
  have hsame : tradeFp fp ci lo F lo = F := by simp [tradeFp]
  have hgone : ∀ {j}, j ≠ lo → j ∈ ci → tradeFp fp ci lo F j = fun _ => False := fun h1 h2 => by simp [tradeFp, h1, h2]
  have hother : ∀ {j}, j ≠ lo → j ∉ ci → tradeFp fp ci lo F j = fp j := fun h1 h2 => by simp [tradeFp, h1, h2]
  have hsub : ∀ {j b}, j ≠ lo → tradeFp fp ci lo F j b → fp j b ∧ j ∉ ci := fun {j b} h1 h2 => by
    by_cases hc : j ∈ ci
    · rw [hgone h1 hc] at h2; exact h2.elim
    · rw [hother h1 hc] at h2; exact ⟨h2, hc⟩
  have hap : ∀ {j b}, j ≠ lo → F b → tradeFp fp ci lo F j b → False := fun {j b} h1 h2 h3 => by
    obtain ⟨h3, h4⟩ := hsub h1 h3
    rcases hF b h2 with ⟨i, hi, hf⟩ | ⟨hb, _⟩
    · exact h.apart i j b (fun e => h4 (e ▸ hi)) hf h3
    · have := h.lt j b h3; omega
  refine ⟨⟨fun j => ?_, fun j b hb => ?_, fun j b hb => ?_, fun j b hb => ?_, fun i j b hij hi hj => ?_, fun b hb => Nat.lt_of_lt_of_le (h.Ilt b hb) hk.size, h.nil.mono (Env.le_with hlo), h.glob (h.stays hkeep) (fun _ h => h)⟩, ⟨hkeep, Env.le_with hlo, fun b hb => .inl hb, fun b hb => hb, fun j b hb => ?_⟩⟩
  · by_cases hj : j = lo
    · subst hj
      rw [hsame, find_upd, if_pos (by simp [keys])]
      simpa [find] using he
    · rw [find_upd, if_neg (by simp [keys, hj])]
      by_cases hc : j ∈ ci
      · rw [if_pos hc, hgone hj hc]; exact fun b hb => hb
      · rw [if_neg hc, hother hj hc]
        exact (h.sat j).mono (Env.le_with hlo) hst hk.size (fun b hb => hk.same b (h.lt j b hb) (fun ⟨i, hi, hf⟩ => h.apart i j b (fun e => hc (e ▸ hi)) hf hb))
  · by_cases hj : j = lo
    · subst hj
      rw [hsame] at hb
      rcases hF b hb with ⟨i, hi, hf⟩ | ⟨_, hb⟩
      · exact Nat.lt_of_lt_of_le (h.lt i b hf) hk.size
      · exact hb
    · exact Nat.lt_of_lt_of_le (h.lt j b (hsub hj hb).1) hk.size
  · by_cases hj : j = lo
    · subst hj
      rw [hsame] at hb
      intro hI
      rcases hF b hb with ⟨i, hi, hf⟩ | ⟨hb, _⟩
      · exact h.I i b hf hI
      · have := h.Ilt b (.inl hI); omega
    · exact h.I j b (hsub hj hb).1
  · by_cases hj : j = lo
    · subst hj
      rw [hsame] at hb
      intro hI
      rcases hF b hb with ⟨i, hi, hf⟩ | ⟨hb, _⟩
      · exact h.B i b hf hI
      · have := h.Ilt b (.inr hI); omega
    · exact h.B j b (hsub hj hb).1
  · by_cases h1 : i = lo <;> by_cases h2 : j = lo
    · exact hij (h1.trans h2.symm)
    · subst h1; rw [hsame] at hi; exact hap h2 hi hj
    · subst h2; rw [hsame] at hj; exact hap h1 hj hi
    · exact h.apart i j b hij (hsub h1 hi).1 (hsub h2 hj).1
  · by_cases hj : j = lo
    · subst hj
      rw [hsame] at hb
      rcases hF b hb with ⟨i, hi, hf⟩ | ⟨hb, _⟩
      · exact .inl ⟨i, hf⟩
      · exact .inr hb
    · exact .inl ⟨j, (hsub hj hb).1⟩

/-- Cells in a row are those of data. -/
theorem row_cells {E : Env} {w : World} {t : Ty} {xs : List t.den} {l : List Value} (h : CellsAre E w (flatF (enc t) xs) l) (i : Nat) (x : t.den) (j : Nat) (sv : SV)
    (hi : xs[i]? = some x) (hj : (enc t x)[j]? = some sv) : ∃ u, l[i * t.size + j]? = some u ∧ Sat E w sv u := by
  have hjl : j < t.size := by have := (List.getElem?_eq_some_iff.1 hj).1; rw [enc_length] at this; exact this
  have := flatF_get (enc t) t.size (enc_length t) xs i j x hi hjl
  exact h.2 _ sv (by rw [this]; exact hj)

theorem cells_plain {E : Env} {w : World} {cs : List SV} {l : List Value} (hc : ∀ s, s ∈ cs → scalB s = true) (h : CellsAre E w cs l) : ∀ u, u ∈ l → plainV u := fun u hu => by
  obtain ⟨j, hj, rfl⟩ := List.mem_iff_getElem.1 hu
  have hlt : j < cs.length := by rw [← h.1]; exact hj
  obtain ⟨u', h1, h2⟩ := h.2 j cs[j] (by simp [hlt])
  rw [List.getElem?_eq_getElem hj] at h1
  obtain rfl := Option.some.inj h1
  exact scalB_plain (hc _ (List.getElem_mem hlt)) h2

/-- A row in a block of its own. -/
theorem row_sat {E : Env} {w : World} {t : Ty} {te : TypeId} {xs : List t.den} {id cap : Nat} {s : Slot} {arr rest : Array Value} {l : List Value} (hs : E.slot id = some s)
    (hv : s.val = .slice (some ⟨s.blk, 0, none⟩) xs.length cap) (hb : w.heap[s.blk]? = some (.cells arr te (0, 0))) (ha : arr.toList = l ++ rest.toList) (hc : CellsAre E w (flatF (enc t) xs) l)
    (hle : xs.length ≤ cap) (hr : rest.size = (cap - xs.length) * t.size) : EntSat E w (fun b => b = s.blk) id (.row te t xs) := by
  have hl : l.length = xs.length * t.size := by rw [hc.1, flatF_length _ t.size (enc_length t)]
  refine ⟨s, hs, .inr ⟨0, cap, arr, (0, 0), hv, fun b => Iff.rfl, hb, fun o _ => by omega, hle, ?_, fun i x j sv hi hj => ?_⟩⟩
  · have e1 : arr.toList.length = arr.size := by simp
    have e2 : rest.toList.length = rest.size := by simp
    rw [ha, List.length_append, hl, e2, hr] at e1
    rw [← e1, ← Nat.add_mul, Nat.zero_add]
    congr 1; omega
  · obtain ⟨u, h1, h2⟩ := row_cells hc i x j sv hi hj
    refine ⟨u, ?_, h2⟩
    rw [Nat.zero_add, ← Array.getElem?_toList, ha, List.getElem?_append_left (List.getElem?_eq_some_iff.1 h1).1]
    exact h1

theorem led_app {c : Call} (hop : o.op = .call c) (hc : c.callee = .builtin .append) (h : appV P c.argTypes.toList (mapEv T c.args.toList) lo M Kg) : Led r P o T M lo Kp Kg := by
  have hops : opsOf o = opTmps c.args.toList := by simp [opsOf, hop, Op.operands, Call.operands, hc]
  have hd : ∀ c, o.op ≠ .defer c := fun c => by simp [hop]
  have arg2 : ∀ (s x : SV) (t u : TypeId), mapEv T c.args.toList = [s, x] → c.argTypes.toList = [t, u] → ∃ p q, c.args = #[p, q] ∧ c.argTypes = #[t, u] ∧ ev T p = s ∧ ev T q = x := fun s x t u h1 h2 => by
    have h3 : c.argTypes = #[t, u] := by rw [← Array.toArray_toList (xs := c.argTypes), h2]
    cases hl : c.args.toList with
    | nil => rw [hl] at h1; simp [mapEv] at h1
    | cons p l =>
      cases l with
      | nil => rw [hl] at h1; simp [mapEv] at h1
      | cons q l =>
        cases l with
        | nil =>
          rw [hl] at h1
          simp only [mapEv, List.cons.injEq, and_true] at h1
          exact ⟨p, q, by rw [← Array.toArray_toList (xs := c.args), hl], h3, h1.1, h1.2⟩
        | cons _ _ => rw [hl] at h1; simp [mapEv] at h1
  have hexec : ∀ (a : Act) (w w' : World) (v : Value) (t u : TypeId) (p q : Operand), c.args = #[p, q] → c.argTypes = #[t, u] →
      (Builtin.append_ #[t, u] o.type #[a.eval p, a.eval q]).run P w = .ok v w' → (execOp a.eval o).run P w = .ok (.value v) w' := fun a w w' v t u p q h1 h2 h3 => by
    simp only [execOp, hop, resolve, hc, h1, h2, List.map_toArray, List.map_cons, List.map_nil]
    exact ok_value h3
  unfold appV at h
  split at h
  · rename_i ts tx s x htys hargs
    obtain ⟨p, q, ha, hty, hep, heq⟩ := arg2 s x ts tx hargs htys
    split at h
    · rename_i e hu
      split at h
      · exact h.elim
      · rename_i hint
        -- a new row
        have grow : ∀ (t : Ty) (i : TypeInfo) (zs : List Value) (xs ys : List t.den) (ci S : List Nat) (base : Option Addr) (cp : Nat) (ax : Option Addr) (cx : Nat) (old new : Array Value)
            (E : Env) (fp : Nat → Nat → Prop) (a : Act) (w : World), P.info? e = some i → i.size = t.size → i.bytes ≤ 400 → zeroOf P e = some zs → zs.length = t.size → (∀ id, id ∈ ci → id ∈ S) →
            EntsSat E w fp (sub M S) → E.slot lo = none → cp < xs.length + ys.length → xs.length + ys.length ≤ 274877906944 →
            a.eval p = .slice base xs.length cp → a.eval q = .slice ax ys.length cx →
            (∀ w', w'.heap = w.heap → (Builtin.firstCells i.size ys.length (.slice ax ys.length cx)).run P w' = .ok new w') →
            (∀ w', w'.heap = w.heap → (Builtin.firstCells i.size xs.length (.slice base xs.length cp)).run P w' = .ok old w') →
            CellsAre E w (flatF (enc t) xs) old.toList → CellsAre E w (flatF (enc t) ys) new.toList →
            OpRun r P o a w fun v w' => ∃ E' fp', Sat E' w' (.sl lo) v ∧ EntsSat E' w' fp' (upd [(lo, .row e t (xs ++ ys))] ci (sub M S)) ∧ Adv E fp w E' fp' w' ∧ ∀ id, E'.slot id = E.slot id ∨ (lo ≤ id ∧ id < lo + 16) := by
          intro t i zs xs ys ci S base cp ax cx old new E fp a w h1 h2 h3 h4 h5 hci hents hlo hlt hlim hp hq hn ho hco hcn
          obtain ⟨cap, rest, w', g1, g2, g3, g4, g5, g6, g7⟩ := run_append_grow (P := P) (ty := o.type) hu hint h1 h3 h4 hlt hlim hn ho
          let s : Slot := ⟨w.heap.size, some ⟨w.heap.size, 0, none⟩, xs.length + ys.length, cap⟩
          have hkeep : Keep (fun b => ∃ i, i ∈ ci ∧ fp i b) w w' := ⟨g5, ⟨g6⟩, g7, by rw [g4]; simp, fun b hb _ => by rw [g4, Array.getElem?_push]; simp; omega⟩
          have hst : Stays E w w' := hents.stays (hkeep.mono (fun b ⟨i, _, hf⟩ => ⟨i, hf⟩))
          have hcells := (hco.append hcn).mono (Env.le_with (s := s) hlo) hst
          rw [← flatF_append] at hcells
          have hrow : EntSat (E.with lo s) w' (fun b => b = s.blk) lo (.row e t (xs ++ ys)) :=
            row_sat (rest := rest) (cap := cap) (l := old.toList ++ new.toList) (arr := old ++ new ++ rest) (Env.with_self _ _ _) (by simp [Slot.val, s]) (by show w'.heap[w.heap.size]? = _; rw [g4]; simp) (by simp) hcells (by simp; omega) (by rw [g2, h5]; simp)
          obtain ⟨q1, q2⟩ := hents.trade (w' := w') (ci := ci) (s := s) (F := fun b => b = s.blk) hlo (fun b hb => .inr ⟨by subst hb; exact Nat.le_refl _, by subst hb; rw [g4]; simp [s]⟩) hkeep hrow
          rw [← hp, ← hq] at g3
          refine OpRun.value hd (hexec a w w' _ ts tx p q ha hty g3) ⟨E.with lo s, _, ?_, q1, q2, fun id => ?_⟩
          · exact Sat.sl lo s (Env.with_self _ _ _)
          · by_cases e : id = lo
            · exact .inr (by omega)
            · exact .inl (Env.with_other e)
        have none' : ∀ (w : World) (n m k : Nat), (Builtin.firstCells n 0 (.slice none m k)).run P w = .ok #[] w := fun w n m k => rfl
        have stay : ∀ (t : Ty) (xs ys : List t.den) (ci S : List Nat) (E : Env) (fp : Nat → Nat → Prop) (a : Act) (w : World) (ax : Option Addr) (cx : Nat) (new : Array Value) (i : TypeInfo) , P.info? e = some i →
            xs = [] → ys = [] → EntsSat E w fp (sub M S) → E.slot lo = none → a.eval p = .slice none 0 0 → a.eval q = .slice ax ys.length cx → 
            (Builtin.firstCells i.size ys.length (.slice ax ys.length cx)).run P w = .ok new w →
            OpRun r P o a w fun v w' => ∃ E' fp', Sat E' w' (.sl lo) v ∧ EntsSat E' w' fp' (upd [(lo, .row e t (xs ++ ys))] ci (sub M S)) ∧ Adv E fp w E' fp' w' ∧ ∀ id, E'.slot id = E.slot id ∨ (lo ≤ id ∧ id < lo + 16) := by
          rintro t xs ys ci S E fp a w ax cx new i h1 rfl rfl hents hlo hp hq hn
          have g := run_append_room (P := P) (ty := o.type) (base := none) (sLen := 0) (sCap := 0) (w' := w) hu hint h1 (Nat.le_refl _) hn rfl
          let s : Slot := ⟨0, none, 0, 0⟩
          obtain ⟨q1, q2⟩ := hents.trade (w' := w) (ci := ci) (s := s) (e := .row e t []) (F := fun b => False) hlo (fun b hb => hb.elim) (.refl _ _) ⟨s, Env.with_self _ _ _, .inl ⟨rfl, rfl, fun b hb => hb⟩⟩
          have g' : (Builtin.append_ #[ts, tx] o.type #[a.eval p, a.eval q]).run P w = .ok (.slice none 0 0) w := by rw [hp, hq]; exact g
          refine OpRun.value hd (hexec a w w _ ts tx p q ha hty g') ⟨E.with lo s, _, ?_, q1, q2, fun id => ?_⟩
          · exact Sat.sl lo s (Env.with_self _ _ _)
          · by_cases e : id = lo
            · exact .inr (by omega)
            · exact .inl (Env.with_other e)
        split at h
        · split at h
          · rename_i t ht
            split at h
            · rename_i hok
              obtain ⟨i, zs, i1, i2, i3, i4, i5⟩ := appOk_spec hok
              obtain ⟨ys, S, ⟨hlim, hk⟩, hsrc⟩ := srcV_spec (P := P) h
              refine .inr ⟨_, _, _, _, hk, (fun id hid => by cases hid), fun E fp a w hrd hents hfr => ?_⟩
              rw [hops, ha] at hrd
              have hlo := hfr lo (Nat.le_refl _) (by omega)
              have hp := ev_sat (E := E) (w := w) hrd (x := p) (by simp)
              rw [hep] at hp
              have hq := ev_sat (E := E) (w := w) hrd (x := q) (by simp)
              rw [heq] at hq
              have hp' : a.eval p = .slice none 0 0 := by generalize a.eval p = pv at hp; cases hp; rfl
              have hent : ∀ i, i ∈ S → EntSat E w (fp i) i (find M i) := fun i hi => wf_block hents hi
              obtain ⟨ax, cx, cells, c1, c2, c3⟩ := hsrc E fp w _ hent hq
              by_cases hz : ys.length = 0
              · have hy : ys = [] := List.length_eq_zero_iff.1 hz
                have := stay t [] ys [] S E fp a w ax cx cells i i1 rfl hy hents hlo hp' c1 (by rw [c1] at c2; rw [i2]; exact c2 w rfl)
                simpa using this
              · have hn : ∀ w', w'.heap = w.heap → (Builtin.firstCells i.size ys.length (.slice ax ys.length cx)).run P w' = .ok cells w' := fun w' hw => by
                  rw [c1] at c2; rw [i2]; exact c2 w' hw
                have := grow t i zs [] ys [] S none 0 ax cx #[] cells E fp a w i1 i2 i3 i4 i5 (fun _ h => by cases h) hents hlo (by simp; omega) (by simpa using hlim) hp' c1 hn
                  (fun w' _ => none' w' _ _ _) ⟨rfl, fun j s hj => by simp [flatF] at hj⟩ c3
                simpa using this
            · exact h.elim
          · exact h.elim
        · -- an empty literal
          rename_i i0
          split at h
          · rename_i te hf
            split at h
            · rename_i t ht
              split at h
              · rename_i hok
                simp only [Bool.and_eq_true] at hok
                obtain ⟨hte, hok⟩ := hok
                obtain rfl := Nat.eq_of_beq_eq_true hte
                obtain ⟨i, zs, i1, i2, i3, i4, i5⟩ := appOk_spec hok
                obtain ⟨ys, S, hk, hsrc⟩ := srcV_spec (P := P) h
                split at hk
                · exact hk.elim
                · rename_i hmem
                  obtain ⟨hlim, hk⟩ := hk
                  refine .inr ⟨_, _, _, _, hk, (fun id hid => by rw [List.mem_singleton.1 hid]; exact List.mem_cons_self ..), fun E fp a w hrd hents hfr => ?_⟩
                  rw [hops, ha] at hrd
                  have hlo := hfr lo (Nat.le_refl _) (by omega)
                  have hp := ev_sat (E := E) (w := w) hrd (x := p) (by simp)
                  rw [hep] at hp
                  have hq := ev_sat (E := E) (w := w) hrd (x := q) (by simp)
                  rw [heq] at hq
                  have hent : ∀ i, i ∈ S → EntSat E w (fp i) i (find M i) := fun i hi => wf_block hents (List.mem_cons_of_mem _ hi)
                  have hent0 := wf_block hents (List.mem_cons_self (a := i0) (l := S))
                  rw [hf] at hent0
                  obtain ⟨s0, arr, fz, e1, e2, e3, e4, e5, e6⟩ := hent0
                  obtain ⟨ax, cx, cells, c1, c2, c3⟩ := hsrc E fp w _ hent hq
                  rw [c1] at c2
                  rw [← i2] at c2
                  have hp' : a.eval p = .slice (some ⟨s0.blk, 0, none⟩) 0 0 := by
                    generalize a.eval p = pv at hp
                    cases hp with
                    | slc _ _ _ _ s hs => obtain rfl := Option.some.inj (e1.symm.trans hs); rfl
                  have hci : ∀ id, id ∈ [i0] → id ∈ i0 :: S := fun id hid => by rw [List.mem_singleton.1 hid]; exact List.mem_cons_self ..
                  by_cases hz : ys.length = 0
                  · have hy : ys = [] := List.length_eq_zero_iff.1 hz
                    subst hy
                    have hc0 : cells = #[] := Array.eq_empty_of_size_eq_zero (by have := c3.1; simpa [flatF] using this)
                    have g := run_append_room (P := P) (ty := o.type) (base := some ⟨s0.blk, 0, none⟩) (sLen := 0) (sCap := 0) (w' := w) hu hint i1 (Nat.le_refl _) (c2 w rfl) (by rw [hc0]; rfl)
                    let s : Slot := ⟨s0.blk, some ⟨s0.blk, 0, none⟩, 0, 0⟩
                    obtain ⟨q1, q2⟩ := hents.trade (w' := w) (ci := [i0]) (s := s) (e := .row te t []) (F := fun b => b = s0.blk) hlo (fun b hb => .inl ⟨i0, List.mem_singleton.2 rfl, (e2 b).2 hb⟩) (.refl _ _)
                      ⟨s, Env.with_self _ _ _, .inr ⟨0, 0, arr, fz, rfl, fun b => Iff.rfl, e3, e4, Nat.le_refl _, by simpa using e5.symm, fun k x j sv hk _ => by simp at hk⟩⟩
                    have g' : (Builtin.append_ #[ts, tx] o.type #[a.eval p, a.eval q]).run P w = .ok (.slice (some ⟨s0.blk, 0, none⟩) 0 0) w := by rw [hp', c1]; exact g
                    refine OpRun.value hd (hexec a w w _ ts tx p q ha hty g') ⟨E.with lo s, _, ?_, q1, q2, fun id => ?_⟩
                    · exact Sat.sl lo s (Env.with_self _ _ _)
                    · by_cases e : id = lo
                      · exact .inr (by omega)
                      · exact .inl (Env.with_other e)
                  · have := grow t i zs [] ys [i0] (i0 :: S) (some ⟨s0.blk, 0, none⟩) 0 ax cx #[] cells E fp a w i1 i2 i3 i4 i5 hci hents hlo (by simp; omega) (by simpa using hlim) hp' c1 c2
                      (fun w' _ => by show (loadCells _ (0 * i.size)).run P w' = _; rw [Nat.zero_mul]; rfl) ⟨rfl, fun j s hj => by simp [flatF] at hj⟩ c3
                    simpa using this
              · exact h.elim
            · exact h.elim
          · exact h.elim
        · rename_i i0
          split at h
          · rename_i e' t xs hf
            split at h
            · rename_i hb
              simp only [Bool.and_eq_true] at hb
              obtain rfl := Nat.eq_of_beq_eq_true hb.1
              obtain ⟨i, zs, i1, i2, i3, i4, i5⟩ := appOk_spec hb.2
              obtain ⟨ys, S, hk, hsrc⟩ := srcV_spec (P := P) h
              split at hk
              · exact hk.elim
              · rename_i hmem
                obtain ⟨hlim, hk⟩ := hk
                have hiS : i0 ∉ S := fun hc => by rw [memB_iff.2 hc] at hmem; cases hmem
                refine .inr ⟨_, _, _, _, hk, (fun id hid => by rw [List.mem_singleton.1 hid]; exact List.mem_cons_self ..), fun E fp a w hrd hents hfr => ?_⟩
                rw [hops, ha] at hrd
                have hlo := hfr lo (Nat.le_refl _) (by omega)
                have hp := ev_sat (E := E) (w := w) hrd (x := p) (by simp)
                rw [hep] at hp
                have hq := ev_sat (E := E) (w := w) hrd (x := q) (by simp)
                rw [heq] at hq
                have hent : ∀ i, i ∈ S → EntSat E w (fp i) i (find M i) := fun i hi => wf_block hents (List.mem_cons_of_mem _ hi)
                have hent0 := wf_block hents (List.mem_cons_self (a := i0) (l := S))
                rw [hf] at hent0
                obtain ⟨ax, cx, cells, c1, c2, c3⟩ := hsrc E fp w _ hent hq
                rw [c1] at c2
                rw [← i2] at c2
                obtain ⟨s0, hs0, hrow⟩ := hent0
                have hp' : a.eval p = s0.val := by
                  generalize a.eval p = pv at hp
                  cases hp with
                  | sl _ s hs => obtain rfl := Option.some.inj (hs0.symm.trans hs); rfl
                have hci : ∀ id, id ∈ [i0] → id ∈ i0 :: S := fun id hid => by rw [List.mem_singleton.1 hid]; exact List.mem_cons_self ..
                rcases hrow with ⟨g1, g2, g3⟩ | ⟨o2, cp, arr, fz, g1, g2, g3, g4, g5, g6, g7⟩
                · -- it was nil
                  rw [g1] at hp'
                  subst g2
                  by_cases hz : ys.length = 0
                  · have hy : ys = [] := List.length_eq_zero_iff.1 hz
                    exact stay t [] ys [i0] (i0 :: S) E fp a w ax cx cells i i1 rfl hy hents hlo hp' c1 (c2 w rfl)
                  · exact grow t i zs [] ys [i0] (i0 :: S) none 0 ax cx #[] cells E fp a w i1 i2 i3 i4 i5 hci hents hlo (by simp; omega) hlim hp' c1 c2
                      (fun w' _ => none' w' _ _ _) ⟨rfl, fun j s hj => by simp [flatF] at hj⟩ c3
                · rw [g1] at hp'
                  have hlen : xs.length * t.size ≤ cp * t.size := Nat.mul_le_mul_right _ g5
                  by_cases hroom : xs.length + ys.length ≤ cp
                  · -- in place
                    have hlen2 : (xs.length + ys.length) * t.size ≤ cp * t.size := Nat.mul_le_mul_right _ hroom
                    rw [Nat.add_mul] at hlen2
                    have hcl : cells.toList.length = ys.length * t.size := by rw [c3.1, flatF_length _ t.size (enc_length t)]
                    obtain ⟨w', h1, h2, h3⟩ := run_storeCells (P := P) (o := o2 + xs.length * t.size) cells.toList 0 w arr g3 (by omega) g4
                      (cells_plain (fun s hs => by obtain ⟨x, _, hx⟩ := flatF_mem hs; exact enc_scal t x s hx) c3)
                    have hst : (match (some ⟨s0.blk, o2, none⟩ : Option Addr) with | some a => storeCells (a.add (xs.length * i.size)) cells.toList | none => (pure () : Sem Unit)).run P w = .ok () w' := by
                      show (storeCells ((⟨s0.blk, o2, none⟩ : Addr).add (xs.length * i.size)) cells.toList).run P w = _
                      rw [add_none, i2]; exact h1
                    have g := run_append_room (P := P) (ty := o.type) (base := some ⟨s0.blk, o2, none⟩) (w' := w') hu hint i1 hroom (c2 w rfl) hst
                    rw [← hp', ← c1] at g
                    rw [Nat.add_zero] at h2
                    let s : Slot := ⟨s0.blk, some ⟨s0.blk, o2, none⟩, xs.length + ys.length, cp⟩
                    have hkeep : Keep (fun b => ∃ i, i ∈ [i0] ∧ fp i b) w w' := h3.mono (fun b hb => ⟨i0, List.mem_singleton.2 rfl, (g2 b).2 hb⟩)
                    have hstay : Stays E w w' := hents.stays (hkeep.mono (fun b ⟨i, _, hf⟩ => ⟨i, hf⟩))
                    have hle := Env.le_with (s := s) hlo
                    have hnew := c3.mono hle hstay
                    have hrow : EntSat (E.with lo s) w' (fun b => b = s0.blk) lo (.row e t (xs ++ ys)) := by
                      refine ⟨s, Env.with_self _ _ _, .inr ⟨o2, cp, _, fz, by simp [Slot.val, s], fun b => Iff.rfl, h2, by rw [putAll_size]; exact g4, by simpa using hroom, by rw [putAll_size]; exact g6, fun k x j sv hk hj => ?_⟩⟩
                      have hjt : j < t.size := by have := (List.getElem?_eq_some_iff.1 hj).1; rw [enc_length] at this; exact this
                      rw [putAll_get (by omega)]
                      by_cases hkl : k < xs.length
                      · rw [List.getElem?_append_left hkl] at hk
                        have : (k + 1) * t.size ≤ xs.length * t.size := Nat.mul_le_mul_right _ hkl
                        rw [Nat.add_mul] at this
                        rw [if_neg (by omega)]
                        obtain ⟨u, hu, hs⟩ := g7 k x j sv hk hj
                        exact ⟨u, hu, hs.mono hle hstay⟩
                      · rw [List.getElem?_append_right (by omega)] at hk
                        have hk2 := (List.getElem?_eq_some_iff.1 hk).1
                        have e1 : (k - xs.length + 1) * t.size ≤ ys.length * t.size := Nat.mul_le_mul_right _ hk2
                        have e2 : k * t.size = xs.length * t.size + (k - xs.length) * t.size := by rw [← Nat.add_mul]; congr 1; omega
                        rw [Nat.add_mul] at e1
                        rw [if_pos (by omega)]
                        obtain ⟨u, hu, hs⟩ := row_cells hnew (k - xs.length) x j sv hk hj
                        exact ⟨u, by rw [← hu]; congr 1; omega, hs⟩
                    obtain ⟨q1, q2⟩ := hents.trade (w' := w') (ci := [i0]) (s := s) (F := fun b => b = s0.blk) hlo (fun b hb => .inl ⟨i0, List.mem_singleton.2 rfl, (g2 b).2 hb⟩) hkeep hrow
                    refine OpRun.value hd (hexec a w w' _ ts tx p q ha hty g) ⟨E.with lo s, _, ?_, q1, q2, fun id => ?_⟩
                    · exact Sat.sl lo s (Env.with_self _ _ _)
                    · by_cases e : id = lo
                      · exact .inr (by omega)
                      · exact .inl (Env.with_other e)
                  · -- a new row
                    obtain ⟨old, o1, o3⟩ := firstCells_some (P := P) (k := s0.blk) (o := o2) (size := t.size) (n := xs.length) (c := cp) (u := fun m => arr.getD (o2 + m) undef) (w := w) (fun m hm => by
                      have hlt' : o2 + m < arr.size := by omega
                      simp [World.cell?, g3, hlt'])
                    rw [← i2] at o1
                    refine grow t i zs xs ys [i0] (i0 :: S) _ cp ax cx old cells E fp a w i1 i2 i3 i4 i5 hci hents hlo (by omega) hlim hp' c1 c2 o1 ?_ c3
                    rw [o3]
                    refine range_cells (by rw [flatF_length _ t.size (enc_length t)]) (fun k sv hk => ?_)
                    have hlt := (List.getElem?_eq_some_iff.1 hk).1
                    rw [flatF_length _ t.size (enc_length t)] at hlt
                    rcases Nat.eq_zero_or_pos t.size with hz | hpos
                    · rw [hz] at hlt; omega
                    · have hi : k / t.size < xs.length := (Nat.div_lt_iff_lt_mul hpos).2 hlt
                      have hj2 : k = (k / t.size) * t.size + k % t.size := by rw [Nat.mul_comm]; exact (Nat.div_add_mod k t.size).symm
                      have hm : k % t.size < t.size := Nat.mod_lt _ hpos
                      have hg := flatF_get (enc t) t.size (enc_length t) xs (k / t.size) (k % t.size) xs[k / t.size] (by simp [hi]) hm
                      rw [← hj2, hk] at hg
                      obtain ⟨u, hu, hsat⟩ := g7 (k / t.size) xs[k / t.size] (k % t.size) sv (by simp [hi]) hg.symm
                      have : arr.getD (o2 + k) undef = u := by
                        rw [Nat.add_assoc, ← hj2] at hu
                        simp [hu]
                      show Sat E w sv (arr.getD (o2 + k) undef)
                      rw [this]; exact hsat
            · exact h.elim
          · exact h.elim
        · exact h.elim
    · exact h.elim
  · exact h.elim

end
end Go.Eng
