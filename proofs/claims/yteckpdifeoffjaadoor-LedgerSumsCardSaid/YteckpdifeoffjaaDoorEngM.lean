/- The engine, part M: one operation; a region. -/
import Derived.Test.YteckpdifeoffjaaDoorEngP
set_option linter.unusedVariables false
namespace Go.Eng

section
variable {r : Option Nat} {P : Program} {G : Nat → Option Ctr}

theorem own1_sat {E : Env} {w : World} {s : SV} {v : Value} (h : own1 s = true) (hs : Sat E w s v) : Sat (bareE E.I) w s v := by
  cases hs with
  | v _ => exact .v _
  | nil b t A c => exact .nil b t A c
  | ro b t xs k o c u hb hle hc hcs =>
    cases b with
    | true => cases h
    | false =>
      have hI : (bareE E.I).ok false k := .inl (hb.resolve_right (fun h => by cases h.1))
      exact .ro false t xs k o c u hI hle hc (fun i x j sv hi hj => (enc_move (E := E) (E' := bareE E.I) (fun b hb => hb) t).1 x j sv _ hj (hcs i x j sv hi hj))
  | _ => cases h

theorem allOwn1_spec : ∀ {l : List SV}, allOwn1 l = true → ∀ (j : Nat) (s : SV), l[j]? = some s → own1 s = true
  | [], _, j, s, h => by simp at h
  | x :: l, h, j, s, hj => by
    unfold allOwn1 at h
    split at h
    · rename_i hx
      cases j with
      | zero => obtain rfl : x = s := by simpa using hj
                exact hx
      | succ j => exact allOwn1_spec h j s (by simpa using hj)
    · cases h

theorem ownB_sat {E : Env} {w : World} {s : SV} {v : Value} (h : ownB s = true) (hs : Sat E w s v) : Sat (bareE E.I) w s v := by
  cases hs with
  | agg l vs u hl hu hcs => exact .agg l vs u hl hu (fun j sv hj => own1_sat (allOwn1_spec h j sv hj) (hcs j sv hj))
  | v _ => exact .v _
  | nil b t A c => exact .nil b t A c
  | ro b t xs k o c u hb hle hc hcs => exact own1_sat h (.ro b t xs k o c u hb hle hc hcs)
  | _ => cases h

theorem allOwn_spec : ∀ {l : List SV}, allOwn l = true → ∀ (j : Nat) (s : SV), l[j]? = some s → ownB s = true
  | [], _, j, s, h => by simp at h
  | x :: l, h, j, s, hj => by
    unfold allOwn at h
    split at h
    · rename_i hx
      cases j with
      | zero => obtain rfl : x = s := by simpa using hj
                exact hx
      | succ j => exact allOwn_spec h j s (by simpa using hj)
    · cases h

theorem led_yield {o : Oper} {T : Tm} {M : En} {lo : Nat} {Kp : SV → List Nat → Prop} {Kg : SV → List Nat → List Nat → En → Prop} {c : Call} {f : Operand} {l : Nat} {cap : Array Value}
    (hop : o.op = .call c) (hc : c.callee = .value f) (hf : ev T f = .v (.func (.yield l) ⟨[]⟩ cap)) (h : YieldP P l (mapEv T c.args.toList) M Kg) : Led r P o T M lo Kp Kg := by
  have hops : opsOf o = opTmps (f :: c.args.toList) := by simp [opsOf, hop, Op.operands, Call.operands, hc]
  have hd : ∀ c, o.op ≠ .defer c := fun c => by simp [hop]
  obtain ⟨Y, k, i, as0, e0, h⟩ := h
  subst e0
  unfold YieldB at h
  split at h
  · rename_i F A hfi
    obtain ⟨⟨hok, hlive, rfl, rfl⟩, h⟩ := h
    obtain ⟨m, bs, fs, q, h, g1, gl, ga⟩ := (mat_good M 200).2 _ _ _ _ _ _ _ h
    split at h
    · split at h
      · rename_i hb
        simp only [Bool.and_eq_true, Bool.not_eq_true'] at hb
        obtain ⟨hown, hmem⟩ := hb
        have hifs : i ∉ fs := memB_false hmem
        obtain ⟨hq, hk⟩ := h
        have hq := conj_all q hq
        refine .inr ⟨_, _, _, _, hk, (fun id hid => hid), fun E fp a w hrd hents hfr => ?_⟩
        rw [hops] at hrd
        have e1 := ev_sat (E := E) (w := w) hrd (x := f) (List.mem_cons_self ..)
        rw [hf] at e1
        generalize hfe : a.eval f = fv at e1
        cases e1
        obtain ⟨a1, a2, a3⟩ := map_sat (T := T) (E := E) (w := w) (a := a) (l := c.args) (fun t ht => hrd t (by
          show t ∈ opTmps ([f] ++ c.args.toList)
          rw [opTmps_append]; exact List.mem_append_right _ ht))
        have hM : ∀ j, j ∈ i :: fs → EntSat E w (fp j) j (find M j) := fun j hj => wf_block hents hj
        have hlent : Lent M E w fp [] fs := ⟨hents.nil, fun j hj => hM j (List.mem_cons_of_mem _ (hj.resolve_left (fun h => by cases h)))⟩
        have hent := hM i (List.mem_cons_self ..)
        rw [hfi] at hent
        obtain ⟨hF, J, hJ, hS, hst⟩ := hent
        let E1 := envF E fp [] [] fs
        have hnotI : ∀ b, E1.I b → b < w.heap.size ∧ ¬ fp i b := fun b hb => by
          rcases hb with hb | ⟨j, hj, hb⟩
          · exact ⟨hents.Ilt b (.inl hb), fun hx => hents.I i b hx hb⟩
          · exact ⟨hents.lt j b hb, fun hx => hents.apart i j b (fun e => hifs (e ▸ hj)) hx hb⟩
        obtain ⟨fn, tmps, as, body, hy, hround⟩ := hok.law k J (fp i) E1.I w (c.args.map a.eval) hlive hS hnotI (fun b hb => .inl (hJ b hb).1)
          (fun b hb => ⟨(hF b hb).2, fun hx => by rcases (hF b hb).1 with h1 | h1; exact hents.I i b hx h1; exact hents.B i b hx h1⟩) (fun b hb => hents.lt i b hb) (by omega) (fun j s hj => by
            have hlt := (List.getElem?_eq_some_iff.1 hj).1
            have hlt' : j < (mapEv T c.args.toList).length := by omega
            exact ownB_sat (E := E1) (allOwn_spec hown j s hj) (ga j s _ hj (List.getElem?_eq_getElem hlt') hq E w fp hlent _ (a3 j _ (List.getElem?_eq_getElem hlt'))))
        refine OpRun.round hd (w' := w) (l := l) (f := fn) (tmps := tmps) (as := as) (body := body) ?_ (RoundIn.mono hround ?_)
        · simp only [execOp, hop, resolve, hc, hfe, Deferred.ofValue]
          rw [run_then (show (pure { target := Target.fn (Fn.yield l) cap, args := #[] ++ c.args.map a.eval } : Sem Deferred).run P w = .ok _ w from rfl)]
          simp only [invoke, Array.empty_append]
          exact hy
        · rintro e w' ⟨rfl, J', fp', hS', hkp, hJ', hon, hlt'⟩
          have hkeep : Keep (own fp) w w' := hkp.mono (fun b hb => ⟨i, hb⟩)
          have hstay : Stays E w w' := hents.stays hkeep
          let E2 : Env := ⟨E.slot, E1.I, E.B⟩
          have hle : E.le E2 := ⟨fun _ _ h => h, fun b hb => .inl hb, fun b hb => hb⟩
          open Classical in
          let fp2 : Nat → Nat → Prop := fun j => if j = i then fp' else if j ∈ fs then fun _ => False else fp j
          have f1 : fp2 i = fp' := by simp [fp2]
          have f2 : ∀ {j}, j ≠ i → j ∈ fs → fp2 j = fun _ => False := fun h1 h2 => by simp [fp2, h1, h2]
          have f3 : ∀ {j}, j ≠ i → j ∉ fs → fp2 j = fp j := fun h1 h2 => by simp [fp2, h1, h2]
          have hsub : ∀ {j b}, j ≠ i → fp2 j b → fp j b ∧ j ∉ fs := fun {j b} h1 h2 => by
            by_cases hc : j ∈ fs
            · rw [f2 h1 hc] at h2; exact h2.elim
            · rw [f3 h1 hc] at h2; exact ⟨h2, hc⟩
          have hap : ∀ {j b}, j ≠ i → fp' b → fp2 j b → False := fun {j b} h1 h2 h3 => by
            have h4 := (hsub h1 h3).1
            rcases hon b h2 with h5 | h5
            · exact hents.apart i j b (fun e => h1 e.symm) h5 h4
            · have := hents.lt j b h4; omega
          have hsame : ∀ b, fp i b → True := fun _ _ => trivial
          refine ⟨_, rfl, E2, fp2, .v _, ⟨fun id => ?_, fun id b hb => ?_, fun id b hb hI => ?_, fun id b hb hB => ?_, fun x y b hxy hx hy => ?_, fun b hb => ?_, hents.nil.mono hle, hents.glob (hents.stays hkeep) hle.I⟩, ⟨hkeep, hle, fun b hb => ?_, fun b hb => hb, fun id b hb => ?_⟩, fun id => .inl rfl⟩
          · rw [find_upd]
            by_cases e : id = i
            · subst e
              rw [if_pos (by simp [keys]), f1]
              show EntSat E2 w' fp' id (find [(id, Ent.res Y.F (Y.S (k + 1)))] id)
              have : find [(id, Ent.res Y.F (Y.S (k + 1)))] id = .res Y.F (Y.S (k + 1)) := by simp [find]
              rw [this]
              refine ⟨fun b hb => ⟨(hF b hb).1.imp .inl (fun h => h), Nat.lt_of_lt_of_le (hF b hb).2 hkp.size⟩, J', fun b hb => ⟨hJ' b hb, Nat.lt_of_lt_of_le (hnotI b (hJ' b hb)).1 hkp.size⟩, hS', fun w'' h1 h2 => hok.stay _ _ _ _ _ hS' h1 h2⟩
            · rw [if_neg (by simp [keys, e])]
              by_cases hc : id ∈ i :: fs
              · have hc' : id ∈ fs := (List.mem_cons.1 hc).resolve_left e
                rw [if_pos hc, f2 e hc']
                exact fun b hb => hb
              · have hc' : id ∉ fs := fun h => hc (List.mem_cons_of_mem _ h)
                rw [if_neg hc, f3 e hc']
                exact (hents.sat id).mono hle hstay hkp.size (fun b hb => hkp.same b (hents.lt id b hb) (fun hx => hents.apart i id b (fun h => e h.symm) hx hb))
          · by_cases e : id = i
            · subst e; rw [f1] at hb; exact hlt' b hb
            · exact Nat.lt_of_lt_of_le (hents.lt id b (hsub e hb).1) hkp.size
          · by_cases e : id = i
            · subst e
              rw [f1] at hb
              rcases hon b hb with h5 | h5
              · exact (hnotI b hI).2 h5
              · have := (hnotI b hI).1; omega
            · obtain ⟨h1, h2⟩ := hsub e hb
              rcases hI with hI | ⟨j, hj, hx⟩
              · exact hents.I id b h1 hI
              · exact hents.apart id j b (fun h => h2 (h ▸ hj)) h1 hx
          · by_cases e : id = i
            · subst e
              rw [f1] at hb
              rcases hon b hb with h5 | h5
              · exact hents.B id b h5 hB
              · have := hents.Ilt b (.inr hB); omega
            · exact hents.B id b (hsub e hb).1 hB
          · by_cases h1 : x = i <;> by_cases h2 : y = i
            · exact hxy (h1.trans h2.symm)
            · subst h1; rw [f1] at hx; exact hap h2 hx hy
            · subst h2; rw [f1] at hy; exact hap h1 hy hx
            · exact hents.apart x y b hxy (hsub h1 hx).1 (hsub h2 hy).1
          · rcases hb with hb | hb
            · exact Nat.lt_of_lt_of_le (hnotI b hb).1 hkp.size
            · exact Nat.lt_of_lt_of_le (hents.Ilt b (.inr hb)) hkp.size
          · rcases hb with hb | ⟨j, hj, hb⟩
            · exact .inl hb
            · exact .inr (.inl ⟨j, hb⟩)
          · by_cases e : id = i
            · subst e
              rw [f1] at hb
              exact (hon b hb).imp (fun h => ⟨id, h⟩) (fun h => h)
            · exact .inl ⟨id, (hsub e hb).1⟩
      · exact h.elim
    · exact h.elim
  · exact h.elim

theorem opV_led (hG : Known P G) {o : Oper} {T : Tm} {M : En} {lo : Nat} {Kp : SV → List Nat → Prop} {Kg : SV → List Nat → List Nat → En → Prop} (h : opV P G o lo T M Kp Kg) : Led r P o T M lo Kp Kg := by
  unfold opV at h
  split at h
  · rename_i x e; exact led_move (.inl e) h
  · rename_i x e; exact led_move (.inr e) h
  · rename_i c x y e; exact led_pick e h
  · rename_i t e; exact led_alloc e h
  · rename_i t x e; exact led_box e h
  · rename_i t parts e; exact led_build e h
  · rename_i t len parts e; exact led_buildSlice e h
  · rename_i t x e; exact led_load e h
  · rename_i t x y e; exact led_store e h
  · rename_i x e; exact led_nilCheck e h
  · rename_i t x f e; exact led_fieldAddr e h
  · rename_i t x f e; exact led_field e h
  · rename_i f a c e; exact led_makeFunc e h
  · rename_i x n e; exact led_extract e h
  · rename_i op t x y t' e; exact led_binW e h
  · rename_i a b x e; exact led_conv e h
  · rename_i t x i e; exact led_index e h
  · rename_i t x l h' m e; exact led_slice e h
  · rename_i t l c e; exact led_make e h
  · rename_i t x y e; exact led_indexAddr e h
  · rename_i c e
    split at h
    · rename_i f hc
      split at h
      · rename_i g cap hf; exact led_call hG e hc (by rw [hf]; exact h)
      · rename_i l cap hf; exact led_yield e hc hf h
      · exact h.elim
    · rename_i hc; exact led_app e hc h
    · rename_i b hn hc; exact led_blt e hc h
    · exact h.elim
  · exact h.elim
  · exact h.elim
  · rename_i h1 h2
    refine led_gen (fun cs b e => ?_) (fun c e => ?_) h
    · simp_all
    · simp_all

theorem gonesM_eq (M : En) : ∀ ci, gonesM ci M = gones ci ++ M
  | [] => rfl
  | i :: ci => by simp [gonesM, gones, gonesM_eq M ci]
theorem updM_eq (ci : List Nat) (M : En) : ∀ eo, updM eo ci M = upd eo ci M
  | [] => by simp [updM, upd, gonesM_eq]
  | p :: eo => by simp [updM, upd, updM_eq ci M eo]

theorem putK_eq (d : Option Nat) (x : SV) (T : Tm) (K : Tm → Prop) : putK d x T K = K (putT d x T) := by cases d <;> rfl
theorem gonesK_eq : ∀ (ci : List Nat) (M : En) (K : En → Prop), gonesK ci M K = K (gonesM ci M)
  | [], M, K => rfl
  | i :: ci, M, K => gonesK_eq ci M _
theorem updK_eq : ∀ (eo : En) (ci : List Nat) (M : En) (K : En → Prop), updK eo ci M K = K (updM eo ci M)
  | [], ci, M, K => gonesK_eq ci M K
  | p :: eo, ci, M, K => updK_eq eo ci M _
theorem forceN_eq (n : Nat) (K : Nat → Prop) : forceN n K = K n := by cases n <;> rfl

theorem LocOk.of_run {ops : Array Oper} {o : Oper} {T : Tm} {M : En} {lo hi : Nat} {f : Eff} {rd : List Nat} (h : LocRun r P o T M lo hi f) (hrd : ∀ t, t ∈ f.rd → t ∈ rd)
    (hw : ∀ (E : Env) (w : World) (a : Act), (∀ t, t ∈ rd → Sat E w (look T t) (a.tmps.getD t undef)) → Region.wanted o (yielded ops a.tmps) = true) :
    LocOk r P ops o T M lo hi ⟨rd, f.out, f.S, f.ci, f.eo⟩ := by
  refine ⟨h.1, fun E fp a w hs hents hfr => ?_⟩
  unfold OpStep
  rw [if_pos (hw E w a hs)]
  exact h.2 E fp a w (fun t ht => hs t (hrd t ht)) hents hfr

theorem LocOk.skip {ops : Array Oper} {o : Oper} {T : Tm} {M : En} {lo hi : Nat} {rd : List Nat}
    (hw : ∀ (E : Env) (w : World) (a : Act), (∀ t, t ∈ rd → Sat E w (look T t) (a.tmps.getD t undef)) → Region.wanted o (yielded ops a.tmps) = false) :
    LocOk r P ops o T M lo hi ⟨rd, .v undef, [], [], []⟩ := by
  refine ⟨(fun id hid => by cases hid), fun E fp a w hs hents hfr => ?_⟩
  unfold OpStep
  rw [if_neg (by rw [hw E w a hs]; simp)]
  exact ⟨E, fp, .v _, by rw [upd_nil]; exact hents, .refl _ _ _, fun id => .inl rfl⟩

theorem opV_loc (hG : Known P G) {ops : Array Oper} {base : Nat} {o : Oper} {i : Nat} {T : Tm} {M : En} {tr : List Tch} {K : Tm → En → List Tch → Prop}
    (h : opV P G o (base + 16 * i) T M (fun out S => K (putT o.dst out T) M (⟨rdOf ops.toList o, o.dst, S, []⟩ :: tr))
      (fun out S ci eo => K (putT o.dst out T) (updM eo ci M) (⟨rdOf ops.toList o, o.dst, S, ci ++ keys eo⟩ :: tr)))
    (hw : ∀ (E : Env) (w : World) (a : Act), (∀ t, t ∈ rdOf ops.toList o → Sat E w (look T t) (a.tmps.getD t undef)) → Region.wanted o (yielded ops a.tmps) = true) :
    ∃ ef : Eff, K (putT o.dst ef.out T) (upd ef.eo ef.ci M) (tchOf o ef :: tr) ∧ LocOk r P ops o T M (base + 16 * i) (base + 16 * i + 16) ef := by
  have hsub : ∀ t, t ∈ opsOf o → t ∈ rdOf ops.toList o := fun t ht => List.mem_append_right _ ht
  rcases opV_led hG (r := r) h with ⟨out, S, hk, hr⟩ | ⟨out, S, ci, eo, hk, hr⟩
  · exact ⟨⟨rdOf ops.toList o, out, S, [], []⟩, by rw [upd_nil]; exact hk, LocOk.of_run hr hsub hw⟩
  · exact ⟨⟨rdOf ops.toList o, out, S, ci, eo⟩, by rw [← updM_eq]; exact hk, LocOk.of_run hr hsub hw⟩

theorem opG_ok (hG : Known P G) {ops : Array Oper} {base : Nat} {o : Oper} {i : Nat} {T : Tm} {M : En} {tr : List Tch} {K : Tm → En → List Tch → Prop} (h : opG P G base ops.toList o i T M tr K) :
    ∃ ef : Eff, K (putT o.dst ef.out T) (upd ef.eo ef.ci M) (tchOf o ef :: tr) ∧ LocOk r P ops o T M (base + 16 * i) (base + 16 * i + 16) ef := by
  unfold opG at h
  rw [forceN_eq] at h
  simp only [putK_eq, updK_eq] at h
  split at h
  · rename_i hg
    exact opV_loc hG h (fun E w a _ => by simp [Region.wanted, hg])
  · rename_i g want hg
    split at h
    · rename_i d hd
      have hmem : d ∈ rdOf ops.toList o := List.mem_append_left _ (by rw [hd]; exact List.mem_singleton.2 rfl)
      have hdst : (ops[g]?).bind (·.dst) = some d := by
        unfold gTmp at hd
        rw [hg] at hd
        simp only at hd
        split at hd
        · rename_i og ho
          split at hd
          · rename_i d' hd'
            obtain rfl : d' = d := by simpa using hd
            rw [show ops[g]? = some og by simpa using ho]; simpa using hd'
          · cases hd
        · cases hd
      -- what the guard says
      have hwant : ∀ (b : Bool), look T d = .v (.bool b) → ∀ (E : Env) (w : World) (a : Act), (∀ t, t ∈ rdOf ops.toList o → Sat E w (look T t) (a.tmps.getD t undef)) → Region.wanted o (yielded ops a.tmps) = (b == want) := fun b hb E w a hs => by
        have h1 := hs d hmem
        rw [hb] at h1
        generalize hq : a.tmps.getD d undef = q at h1
        cases h1
        have h2 : a.tmps[d]? = some (.bool b) := by
          cases hc : a.tmps[d]? with
          | none => simp [hc, undef] at hq
          | some v => simp [hc] at hq; rw [hq]
        simp only [Region.wanted, hg, yielded, hdst, Option.bind_some, h2]
        cases b <;> cases want <;> rfl
      have hskip : K (putT o.dst (.v undef) T) M (⟨rdOf ops.toList o, o.dst, [], []⟩ :: tr) →
          (∀ (E : Env) (w : World) (a : Act), (∀ t, t ∈ rdOf ops.toList o → Sat E w (look T t) (a.tmps.getD t undef)) → Region.wanted o (yielded ops a.tmps) = false) →
          ∃ ef : Eff, K (putT o.dst ef.out T) (upd ef.eo ef.ci M) (tchOf o ef :: tr) ∧ LocOk r P ops o T M (base + 16 * i) (base + 16 * i + 16) ef := fun hk hw =>
        ⟨⟨rdOf ops.toList o, .v undef, [], [], []⟩, by rw [upd_nil]; exact hk, LocOk.skip hw⟩
      split at h
      · rename_i b hb
        split at h
        · cases b with
          | true => exact opV_loc hG (h.t rfl) (fun E w a hs => by rw [hwant true hb E w a hs]; rfl)
          | false => exact hskip (h.f rfl) (fun E w a hs => by rw [hwant false hb E w a hs]; rfl)
        · cases b with
          | true => exact hskip (h.t rfl) (fun E w a hs => by rw [hwant true hb E w a hs]; rfl)
          | false => exact opV_loc hG (h.f rfl) (fun E w a hs => by rw [hwant false hb E w a hs]; rfl)
      · rename_i vs hb
        refine hskip h (fun E w a hs => ?_)
        have h1 := hs d hmem
        rw [hb] at h1
        generalize hq : a.tmps.getD d undef = q at h1
        cases h1
        have h2 : ∀ b, a.tmps[d]? ≠ some (.bool b) := fun b hc => by simp [hc] at hq
        have hy : yielded ops a.tmps g = none := by
          unfold yielded
          rw [hdst, Option.bind_some]
          cases hc : a.tmps[d]? with
          | none => rfl
          | some v => cases v with
            | bool b => exact absurd hc (h2 b)
            | _ => rfl
        simp [Region.wanted, hg, hy]
      · exact h.elim
    · exact h.elim

/-! ### A region -/

theorem stD_congr {dst : Nat → Option Nat} {ef ef' : Nat → Eff} {T0 : Tm} {M0 : En} {D : Nat → Bool} : ∀ (m : Nat), (∀ j, j < m → ef j = ef' j) → stD dst ef T0 M0 D m = stD dst ef' T0 M0 D m
  | 0, _ => rfl
  | m + 1, h => by
    simp only [stD, stD_congr m (fun j hj => h j (by omega)), h m (by omega)]

theorem stD_none {dst : Nat → Option Nat} {ef : Nat → Eff} {T0 : Tm} {M0 : En} {D : Nat → Bool} : ∀ (m : Nat), (∀ j, j < m → D j = false) → stD dst ef T0 M0 D m = (T0, M0)
  | 0, _ => rfl
  | m + 1, h => by
    simp only [stD, h m (by omega)]
    exact stD_none m (fun j hj => h j (by omega))

/-- The touches, the last first. -/
def trOf (ops : Array Oper) (ef : Nat → Eff) : Nat → List Tch
  | 0 => []
  | n + 1 => tchOf (ops.getD n default) (ef n) :: trOf ops ef n

theorem trOf_length (ops : Array Oper) (ef : Nat → Eff) : ∀ n, (trOf ops ef n).length = n
  | 0 => rfl
  | n + 1 => by simp [trOf, trOf_length ops ef n]

theorem trOf_get (ops : Array Oper) (ef : Nat → Eff) : ∀ (n i : Nat) (o : Oper), i < n → ops[i]? = some o → (trOf ops ef n).reverse[i]? = some (tchOf o (ef i))
  | 0, i, o, h, _ => by omega
  | n + 1, i, o, h, ho => by
    simp only [trOf, List.reverse_cons]
    by_cases e : i = n
    · subst e
      rw [List.getElem?_append_right (by simp [trOf_length]), List.length_reverse, trOf_length]
      simp [ho]
    · rw [List.getElem?_append_left (by simp [trOf_length]; omega)]
      exact trOf_get ops ef n i o (by omega) ho

theorem trOf_congr {ops : Array Oper} {ef ef' : Nat → Eff} : ∀ n, (∀ j, j < n → ef j = ef' j) → trOf ops ef n = trOf ops ef' n
  | 0, _ => rfl
  | n + 1, h => by simp only [trOf, trOf_congr n (fun j hj => h j (by omega)), h n (by omega)]

theorem vcOps_cons (base : Nat) (all : List Oper) (o : Oper) (l : List Oper) (i : Nat) (T : Tm) (M : En) (tr : List Tch) (K : Tm → En → List Tch → Prop) :
    vcOps P G base all (o :: l) i T M tr K = opG P G base all o i T M tr (fun T M tr => vcOps P G base all l (i + 1) T M tr K) := by
  show opG P G base all o i T M tr (fun T M tr => forceN (i + 1) fun i => vcOps P G base all l i T M tr K) = _
  simp only [forceN_eq]

theorem vcOps_ok (hG : Known P G) {ops : Array Oper} {base : Nat} {T0 : Tm} {M0 : En} {K : Tm → En → List Tch → Prop} : ∀ (l : List Oper) (i : Nat) (ef0 : Nat → Eff), i + l.length = ops.size →
    (∀ j o, l[j]? = some o → ops[i + j]? = some o) →
    vcOps P G base ops.toList l i (stD (dstOf ops) ef0 T0 M0 (fun _ => true) i).1 (stD (dstOf ops) ef0 T0 M0 (fun _ => true) i).2 (trOf ops ef0 i) K →
    ∃ ef : Nat → Eff, (∀ j, j < i → ef j = ef0 j) ∧
      (∀ j o, i ≤ j → ops[j]? = some o → LocOk r P ops o (stD (dstOf ops) ef T0 M0 (fun _ => true) j).1 (stD (dstOf ops) ef T0 M0 (fun _ => true) j).2 (base + 16 * j) (base + 16 * j + 16) (ef j)) ∧
      K (stD (dstOf ops) ef T0 M0 (fun _ => true) ops.size).1 (stD (dstOf ops) ef T0 M0 (fun _ => true) ops.size).2 (trOf ops ef ops.size)
  | [], i, ef0, hlen, hl, h => by
    obtain rfl : i = ops.size := by simpa using hlen
    exact ⟨ef0, fun _ _ => rfl, fun j o hj ho => by have := (Array.getElem?_eq_some_iff.1 ho).1; omega, h⟩
  | o :: l, i, ef0, hlen, hl, h => by
    have hoi : ops[i]? = some o := by simpa using hl 0 o rfl
    have hdst : dstOf ops i = o.dst := by simp [dstOf, hoi]
    rw [vcOps_cons] at h
    obtain ⟨f, hk, hloc⟩ := opG_ok (r := r) hG (ops := ops) (o := o) h
    let ef1 : Nat → Eff := fun j => if j = i then f else ef0 j
    have e0 : ∀ j, j < i → ef1 j = ef0 j := fun j hj => by simp [ef1]; omega
    have e1 : ef1 i = f := by simp [ef1]
    have hst : stD (dstOf ops) ef1 T0 M0 (fun _ => true) i = stD (dstOf ops) ef0 T0 M0 (fun _ => true) i := stD_congr i e0
    have hst1 : stD (dstOf ops) ef1 T0 M0 (fun _ => true) (i + 1) = (putT o.dst f.out (stD (dstOf ops) ef0 T0 M0 (fun _ => true) i).1, upd f.eo f.ci (stD (dstOf ops) ef0 T0 M0 (fun _ => true) i).2) := by
      simp only [stD, hst, e1, hdst]
    have htr : trOf ops ef1 (i + 1) = tchOf o f :: trOf ops ef0 i := by
      simp only [trOf, e1, trOf_congr i e0]
      simp [hoi]
    obtain ⟨ef, g1, g2, g3⟩ := vcOps_ok (ops := ops) (K := K) (base := base) (T0 := T0) (M0 := M0) hG l (i + 1) ef1 (by simp at hlen; omega) (fun j o' hj => by
      have := hl (j + 1) o' (by simpa using hj)
      rw [show i + 1 + j = i + (j + 1) by omega]; exact this) (by rw [hst1, htr]; exact hk)
    refine ⟨ef, fun j hj => (g1 j (by omega)).trans (e0 j hj), fun j o' hj ho => ?_, g3⟩
    by_cases e : j = i
    · subst e
      obtain rfl : o = o' := Option.some.inj (hoi.symm.trans ho)
      have : stD (dstOf ops) ef T0 M0 (fun _ => true) j = stD (dstOf ops) ef0 T0 M0 (fun _ => true) j := (stD_congr j (fun k hk => g1 k (by omega))).trans hst
      rw [this, g1 j (by omega), e1]
      exact hloc
    · exact g2 j o' (by omega) ho

theorem Keep.drawn (own : Nat → Prop) (w : World) (n : Nat) : Keep own w { w with drawn := n } := ⟨rfl, ⟨rfl⟩, rfl, Nat.le_refl _, fun _ _ _ => rfl⟩

theorem StSat.drawn {E : Env} {w : World} {fp : Nat → Nat → Prop} {a : Act} {nt : Nat} {T : Tm} {M : En} (h : StSat E w fp a nt T M) (n : Nat) : StSat E { w with drawn := n } fp a nt T M := by
  have hst : Stays E w { w with drawn := n } := fun _ _ _ => rfl
  exact ⟨h.sz, fun t => (h.tm t).mono (.refl E) hst, ⟨fun id => (h.en.sat id).mono (.refl E) hst (Nat.le_refl _) (fun _ _ => rfl), h.en.lt, h.en.I, h.en.B, h.en.apart, h.en.Ilt, h.en.nil, h.en.glob hst (fun _ h => h)⟩⟩

theorem Adv.drawn (E : Env) (fp : Nat → Nat → Prop) (w : World) (n : Nat) : Adv E fp w E fp { w with drawn := n } :=
  ⟨.drawn _ _ _, .refl _, fun _ h => .inl h, fun _ h => h, fun id _ h => .inl ⟨id, h⟩⟩

theorem reg_ok (hG : Known P G) (hm : P.follows .mixedOrders = true) {ops : Array Oper} {dr : Bool} {nx nt : Nat} {T : Tm} {M : En} {K : VK} (h : regV P G ops dr nx T M K)
    (hdst : ∀ (i : Nat) (o : Oper) (d : Nat), ops[i]? = some o → o.dst = some d → d < nt) {E : Env} {fp : Nat → Nat → Prop} {a : Act} {w : World} (hs : StSat E w fp a nt T M)
    (hfr : ∀ id, E.slot id ≠ none → id < nx) {id : Nat} {Q : Exit → Act → World → Prop}
    (hQ : ∀ T' M' E' fp' a' w', K .normal (nx + 16 * ops.size) T' M' → StSat E' w' fp' a' nt T' M' → (∀ id, E'.slot id ≠ none → id < nx + 16 * ops.size) → Adv E fp w E' fp' w' → (∀ id, id < nx → E'.slot id = E.slot id) → a'.defers = a.defers → Q .normal a' w') :
    (Code.region id ops dr).wpIn (fence r) 0 P Q a w := by
  unfold regV at h
  simp only [forceN_eq] at h
  obtain ⟨ef, _, hloc, hk⟩ := vcOps_ok (r := r) hG (ops := ops) (T0 := T) (M0 := M) ops.toList 0 (fun _ => default) (by simp) (fun j o hj => by simpa using hj) h
  have ht : Traced r P ops nt nx T M ef := ⟨fun i o ho => hloc i o (Nat.zero_le _) ho, hdst⟩
  -- the end
  have fin : ∀ E' fp' a' w' (D : Nat → Bool), (∀ j, j < ops.size → D j = true) → (∀ j, ops.size ≤ j → D j = false) → AtD ops nt nx T M ef D E' fp' a' w' →
      StSat E' w' fp' a' nt (stD (dstOf ops) ef T M (fun _ => true) ops.size).1 (stD (dstOf ops) ef T M (fun _ => true) ops.size).2 ∧ (∀ id, E'.slot id ≠ none → id < nx + 16 * ops.size) := fun E' fp' a' w' D hD hD2 h => by
    refine ⟨h.1.congr (fun t => stD_look _ (fun j hj _ => (hD j hj).symm)) (fun id => stD_find _ (fun j hj _ => (hD j hj).symm)), fun id hne => ?_⟩
    rcases h.2 id hne with h1 | ⟨i, h1, h2, h3⟩
    · omega
    · have : i < ops.size := by
        rcases Nat.lt_or_ge i ops.size with h4 | h4
        · exact h4
        · rw [hD2 i h4] at h1; cases h1
      omega
  have start : ∀ (D : Nat → Bool) (w' : World), (∀ j, D j = false) → StSat E w' fp a nt T M → AtD ops nt nx T M ef D E fp a w' := fun D w' hD hs => by
    refine ⟨?_, fun id hne => .inl (hfr id hne)⟩
    rw [stD_none _ (fun j _ => hD j)]; exact hs
  cases dr with
  | false =>
    refine wpIn_region ?_
    rw [List.range_eq_range']
    refine run_text ht ops.size 0 (by omega) E fp a w (start _ w (fun j => by simp) hs) (fun E' fp' a' w' h1 h2 hsl h3 => ?_)
    obtain ⟨q1, q2⟩ := fin E' fp' a' w' _ (fun j hj => by simp [hj]) (fun j hj => by simp [hj]) h1
    exact hQ _ _ E' fp' a' w' hk q1 q2 h2 hsl h3
  | true =>
    obtain ⟨hrace, hk⟩ := hk
    refine wpIn_region_any hm ?_
    have hrep : ∀ j, (Array.replicate ops.size false).getD j false = false := fun j => by by_cases hj : j < ops.size <;> simp [Array.getD, hj]
    refine run_any ht (fun i o ho => trOf_get ops ef _ i o (Array.getElem?_eq_some_iff.1 ho).1 ho) hrace ops.size _ (by simp) (by simp [List.countP_replicate]) (fun j o ho hj => by rw [hrep] at hj; cases hj) E fp a _ (start _ _ hrep (hs.drawn _)) ?_
    intro E' fp' a' w' D hD hD2 h1 h2 hsl h3
    obtain ⟨q1, q2⟩ := fin E' fp' a' w' D hD hD2 h1
    exact hQ _ _ E' fp' a' w' hk q1 q2 ((Adv.drawn E fp w _).trans h2) hsl h3

end
end Go.Eng
