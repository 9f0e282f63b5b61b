/- Parts of the proof, one behind the other (LibD, Sort, DotF, DotG, DotH, DotI, DotJ, SetA, Frz, Lend, DotK, MisA, Shelf, LibA). -/
import Derived.Test.YtoaaieiiamdopaaGreatDoorPk7
import Derived.Shelf.SlSortCmp.NoneTotal
import Derived.Shelf.SlSortCmp.WholeK
import Derived.Test.YtoaaieiiamdopaaGreatDoorChecked
import Derived.Shelf.Strings.Builder1
import Derived.Shelf.Strings.Builder2
import Derived.Shelf.Strings.OnBuilder
import Derived.Shelf.Small.Bits
import Derived.Shelf.Strconv.Atoi
import Derived.Shelf.Strconv.Itoa0
import Derived.Shelf.Strconv.Itoa1
import Derived.Shelf.LaysM
import Derived.Shelf.Strconv.Itoa2
import Derived.Shelf.Strconv.Itoa3
import Derived.Shelf.Strconv.AtoiErrFast
import Derived.Shelf.Strconv.ParseIntEmpty
import Derived.Shelf.Strconv.AtoiFail
import Derived.Shelf.Strconv.Clone
import Derived.Shelf.Strconv.SyntaxError
import Derived.Shelf.LaysC
import Derived.Shelf.Strconv.ToError
import Derived.Shelf.Strconv.Lower
import Derived.Shelf.Strconv.ParseUint10
import Derived.Shelf.Strconv.ParseUint10Empty
import Derived.Shelf.Strconv.ParseUint10Any
import Derived.Shelf.Strconv.ParseInt10
import Derived.Shelf.Strconv.AtoiLong
import Derived.Shelf.Strconv.AtoiInnerAll
import Derived.Shelf.Strconv.RangeError
import Derived.Shelf.Strconv.ToErrorRange
import Derived.Shelf.Strconv.AtoiAll
import Derived.Shelf.Strings.Search1
import Derived.Shelf.Strings.Search2
import Derived.Shelf.Strings.Search3
import Derived.Shelf.Strings.Cut
import Derived.Shelf.Strings.Count
import Derived.Shelf.Strings.Shaped
import Derived.Shelf.Strings.Split
import Derived.Shelf.Strings.SplitShaped
import Derived.Shelf.Unicode.DecodeSlow
import Derived.Lib.ItoaMem
import Derived.WalkKit
import Derived.BigCall
import Derived.BigGuard
set_option linter.unusedVariables false
set_option linter.unusedSimpArgs false
set_option linter.unusedSectionVars false
set_option linter.unusedVariables false
set_option linter.unusedSimpArgs false
set_option maxHeartbeats 1000000
namespace Go.Eng
open Go.Sort Go.Shelf Go.Proofs
/-- It is asked that no draw is taken back. -/
@[reducible] def dmT : DM := ⟨True⟩

theorem grow_of {w w' : World} (h1 : w'.os = w.os) (h2 : w'.tape = w.tape) (h3 : w'.output = w.output) (h4 : w.heap.size ≤ w'.heap.size) (h5 : ∀ b, b < w.heap.size → w'.heap[b]? = w.heap[b]?) (h6 : w.drawn ≤ w'.drawn) :
    ∃ q os, w' = grow (w.drewN q) os := by
  refine ⟨w'.drawn - w.drawn, w'.heap.extract w.heap.size w'.heap.size, ?_⟩
  have hh : w'.heap = w.heap ++ w'.heap.extract w.heap.size w'.heap.size := by
    apply Array.ext_getElem?
    intro i
    by_cases hi : i < w.heap.size
    · rw [Array.getElem?_append_left hi]; exact h5 i hi
    · rw [Array.getElem?_append_right (by omega), Array.getElem?_extract]
      split
      · congr 1; omega
      · rw [Array.getElem?_eq_none (by omega)]
  cases w with
  | mk heap tape drawn os output =>
  cases w' with
  | mk heap' tape' drawn' os' output' =>
  dsimp only at h1 h2 h3 h4 h6 hh
  subst h1 h2 h3
  show World.mk heap' tape' drawn' os' output' = World.mk (heap ++ heap'.extract heap.size heap'.size) tape' (drawn + (drawn' - drawn)) os' output'
  rw [← hh, show drawn + (drawn' - drawn) = drawn' by omega]

/-- A call of what only reads, as a sort wants it. -/
theorem cmp_run {C : Ctr} {P : Program} {g : FuncId} (hC : @Ctr.ok dmT C P g) (z : C.X) (hz : C.side z) (hrw : C.rw z = []) {n : Int} (hres : C.res z (C.val z) = .v (.int .i64 n)) {E : Env} {w : World}
    (hI : ∀ b, E.I b ∨ E.B b → b < w.heap.size) (hn : NilOk E) (hg : GlobOk E w) (hnames : ∀ id, E.slot id ≠ none → id < 1000 ∨ nilB id = true) {vals : Array Value} (hsz : vals.size = (C.args z).length)
    (hv : ∀ (j : Nat) (s : SV), (C.args z)[j]? = some s → Sat E w s (vals.getD j undef)) :
    Calls P g vals w fun e w' => e = .returned (.int .i64 n) ∧ ∃ q os, w' = grow (w.drewN q) os := by
  letI : DM := dmT
  obtain ⟨_, hc⟩ := hC z hz
  have hE : @EntsSat E w (fun _ _ => False) (C.rw z) := by
    rw [hrw]
    exact ⟨fun id b hb => hb, fun id b hb => hb.elim, fun id b hb => hb.elim, fun id b hb => hb.elim, fun i j b _ hb => hb.elim, hI, hn, hg⟩
  refine Calls.mono (callsIn_wide.1 (hc E (fun _ _ => False) vals w hsz hv hE hnames)) ?_
  rintro e w' ⟨v, E', fp', rfl, hsat, _, hadv, _⟩
  rw [hres] at hsat
  cases hsat
  have hk := hadv.keep
  exact ⟨rfl, grow_of hk.os hk.tape.tape hk.output hk.size (fun b hb => hk.same b hb (fun ⟨_, h⟩ => h)) (hk.tape.drawn trivial)⟩

section
variable {α : Type} [Inhabited α] (enc : α → List Value) (k : Nat) (w : World) (blk off m : Nat) (dk : Array α) (os : Array Obj)
theorem sortWorld_at {arr : Array Value} {te : TypeId} {fz : Nat × Nat} (hb : w.heap[blk]? = some (.cells arr te fz)) :
    (sortWorldK enc k w blk off m dk os).heap[blk]? = some (.cells (putCells id off (flatK enc k dk) arr) te fz) := by
  have hlt := (Array.getElem?_eq_some_iff.1 hb).1
  unfold sortWorldK putRowK putRow mapBlock grow Sort.ahead
  dsimp only
  rw [Array.getElem?_append_left (by simpa using hlt), Array.getElem?_modify, if_pos rfl, hb]
  rfl
theorem sortWorld_other {b : Nat} (hb : b ≠ blk) (hlt : b < w.heap.size) : (sortWorldK enc k w blk off m dk os).heap[b]? = w.heap[b]? := by
  unfold sortWorldK putRowK putRow mapBlock grow Sort.ahead
  dsimp only
  rw [Array.getElem?_append_left (by simpa using hlt), Array.getElem?_modify, if_neg (fun e => hb e.symm)]
theorem sortWorld_keep [DM] (hd : ∀ b, b = blk → True) : Keep (fun b => b = blk) w (sortWorldK enc k w blk off m dk os) := by
  refine ⟨rfl, ⟨rfl, fun _ => Nat.le_add_right _ _⟩, rfl, ?_, fun b hb hn => sortWorld_other enc k w blk off m dk os hn hb⟩
  unfold sortWorldK putRowK putRow mapBlock grow Sort.ahead
  simp
end
/-- The elements in order, as Go's sort puts them. -/
noncomputable def sortD {t : Ty} {good : t.den → Prop} [Inhabited {x : t.den // good x}] (cf : t.den → t.den → Int) (l : List {x : t.den // good x}) : List {x : t.den // good x} :=
  (pdq (ltOf fun x y => cf x.1 y.1) l.toArray 0 l.length (Go.Lib.bitLen l.length) true true).toList
section
variable {t : Ty} {good : t.den → Prop} [Inhabited {x : t.den // good x}] {cf : t.den → t.den → Int}
theorem sortD_perm (hO : SWO (ltOf fun (x y : {x : t.den // good x}) => cf x.1 y.1)) (l : List {x : t.den // good x}) :
    (sortD cf l).Perm l ∧ (sortD cf l).Pairwise fun a b => ¬ cf b.1 a.1 < 0 := by
  obtain ⟨⟨h1, _, h2⟩, h3⟩ := pdq_sorts (ltOf fun (x y : {x : t.den // good x}) => cf x.1 y.1) hO l.toArray 0 l.length (Go.Lib.bitLen l.length) true true (Nat.zero_le _) (by simp) (Or.inl rfl)
  have e : sortD cf l = (pdq (ltOf fun (x y : {x : t.den // good x}) => cf x.1 y.1) l.toArray 0 l.length (Go.Lib.bitLen l.length) true true).toList := rfl
  generalize pdq (ltOf fun (x y : {x : t.den // good x}) => cf x.1 y.1) l.toArray 0 l.length (Go.Lib.bitLen l.length) true true = d' at h1 h2 h3 e
  have hs : d'.size = l.length := by simpa using h1
  rw [e]
  refine ⟨?_, ?_⟩
  · have e1 : d'.extract 0 l.length = d' := by rw [← hs]; exact Array.extract_size
    have e2 : l.toArray.extract 0 l.length = l.toArray := by
      have : l.toArray.size = l.length := by simp
      rw [← this]; exact Array.extract_size
    rw [e1, e2] at h2
    exact h2
  · rw [List.pairwise_iff_getElem]
    intro i j hi hj hij
    have hi' : i < d'.size := by simpa using hi
    have hj' : j < d'.size := by simpa using hj
    have := h3 i j (Nat.zero_le _) hij (by omega)
    rw [getElem!_pos d' i hi', getElem!_pos d' j hj'] at this
    have := of_decide_eq_false this
    simpa using this
end
@[reducible] noncomputable def sortC (g : FuncId) (te : TypeId) (t : Ty) (good : t.den → Prop) [Inhabited {x : t.den // good x}] (cf : t.den → t.den → Int) : Ctr := {
  X := List {x : t.den // good x}
  Y := Unit
  args := fun _ => [.sl 0, .func (.func g) [] []]
  rw := fun l => [(0, .row te t (l.map (·.1)))]
  side := fun l => l.length < 4611686018427387904
  val := fun _ => ()
  ens := fun _ _ => True
  res := fun _ _ => .tuple []
  out := fun l _ => [(0, .row te t ((sortD cf l).map (·.1)))] }

theorem sort_ok [DM] {P : Program} {ρ : Ren} {f g : FuncId} {te : TypeId} {t : Ty} {good : t.den → Prop} [Inhabited {x : t.den // good x}] {cf : t.den → t.den → Int} (L : SlLaysF0.n6 P ρ) (hf : ρ.f 6 = f) (ht : ρ.t 24 = te)
    (hagg : aggOf P te = some true) (hsz : szOf P te = some t.size) (hpos : 0 < t.size) (F : t.den → List Value) (hF : ∀ x, enc t x = (F x).map SV.v) (hO : SWO (ltOf fun (x y : {x : t.den // good x}) => cf x.1 y.1))
    (eg : ∀ args w, (callFunc g args).run P w = .ok (.enter g args) w)
    {C : Ctr} (hC : @Ctr.ok dmT C P g) (mk : {x : t.den // good x} → {x : t.den // good x} → C.X) (hside : ∀ x y, C.side (mk x y)) (hargs : ∀ x y, C.args (mk x y) = [.agg (enc t x.1), .agg (enc t y.1)]) (hrw : ∀ x y, C.rw (mk x y) = [])
    (hres : ∀ x y, C.res (mk x y) (C.val (mk x y)) = .v (.int .i64 (cf x.1 y.1))) : (sortC g te t good cf).ok P f := by
  intro l hl
  have hl : l.length < 4611686018427387904 := hl
  refine ⟨trivial, fun E fp vals w hvs hv hents hnames => callsIn_wide.2 ?_⟩
  have hlen : ∀ x, (F x).length = t.size := fun x => by
    have := enc_length t x
    rw [hF, List.length_map] at this; exact this
  obtain ⟨hper, hsort⟩ := sortD_perm hO l
  have h0 := hv 0 _ rfl
  have h1 := hv 1 _ rfl
  rw [vals_two hvs]
  have hfun : vals.getD 1 undef = .func (.func g) #[] #[] := by
    generalize vals.getD 1 undef = q at h1
    cases h1 with
    | func _ _ _ vf vc uf uc hf hc huf huc hsf hsc =>
      obtain rfl : vf = #[] := Array.eq_empty_of_size_eq_zero (by simpa using hf)
      obtain rfl : vc = #[] := Array.eq_empty_of_size_eq_zero (by simpa using hc)
      rfl
  rw [hfun]
  have hsat := hents.sat 0
  obtain ⟨s, g0, g⟩ := hsat
  have hval : vals.getD 0 undef = s.val := by
    generalize vals.getD 0 undef = q at h0
    cases h0 with
    | sl _ s' hs => obtain rfl := Option.some.inj (hs.symm.trans g0); rfl
  rw [hval]
  have hT : Sat E w (.tuple []) (.tuple #[]) := .tuple [] #[] (fun _ => undef) rfl (fun j hj => by simp at hj) (fun j sv hj => by simp at hj)
  rcases g with ⟨k1, k2, k3⟩ | ⟨o, c, arr, fz, k1, k2, k3, k4, k5, k6, k7⟩
  · rw [k1]
    have hl0 : l = [] := List.map_eq_nil_iff.1 k2
    subst hl0
    have hs0 : sortD cf ([] : List {x : t.den // good x}) = [] := List.Perm.eq_nil hper
    rw [← hf]
    refine (AnyF.slices_SortFunc_none (P := P) (ρ := ρ) L none 0 _ w).mono ?_
    rintro e w' ⟨rfl, rfl⟩
    refine ⟨_, E, fp, rfl, hT, ?_, .refl _ _ _, fun _ _ => rfl⟩
    show EntsSat E w' fp [(0, .row te t ((sortD cf ([] : List {x : t.den // good x})).map (·.1)))]
    rw [hs0]; exact hents
  · have hll : (l.map (·.1)).length = l.length := List.length_map ..
    rw [hll] at k1 k5
    rw [k1]
    have hlt := (Array.getElem?_eq_some_iff.1 k3).1
    have hown : fp 0 s.blk := (k2 _).2 rfl
    have henc : ∀ x : {x : t.den // good x}, ((fun x : {x : t.den // good x} => F x.1) x).length = t.size := fun x => hlen x.1
    have hcell : ∀ i (hi : i < l.length) j, j < t.size → arr[o + i * t.size + j]? = some ((F (l[i]).1)[j]!) := fun i hi j hj => by
      have hx : (l.map (·.1))[i]? = some (l[i]).1 := by simp [hi]
      have hjl : j < (F (l[i]).1).length := by rw [hlen]; exact hj
      obtain ⟨u, hu, hs⟩ := k7 i _ j (.v ((F (l[i]).1)[j])) hx (by rw [hF]; simp [hjl])
      cases hs
      rw [hu, getElem!_pos _ j hjl]
    have hbound : ∀ q, q < l.length * t.size → o + q < arr.size := fun q hq => by
      have : l.length * t.size ≤ c * t.size := Nat.mul_le_mul_right _ k5
      omega
    have hH : HoldsK (fun x : {x : t.den // good x} => F x.1) t.size w s.blk o l.toArray := by
      intro q hq
      rw [size_flatK] at hq
      have hq : q < l.length * t.size := by simpa using hq
      have hi : q / t.size < l.length := (Nat.div_lt_iff_lt_mul hpos).2 hq
      have hm : q % t.size < t.size := Nat.mod_lt _ hpos
      have e1 := hcell (q / t.size) hi (q % t.size) hm
      rw [Nat.add_assoc, Nat.mul_comm, Nat.div_add_mod] at e1
      refine ⟨?_, ?_⟩
      · rw [get_flatK _ _ _ _ (by simpa using hq)]
        have e2 : (l.toArray)[q / t.size]! = l[q / t.size] := by rw [getElem!_pos _ _ (by simpa using hi)]; simp
        rw [e2]
        simp only [World.cell?, k3, id_eq, Option.isSome_none, Bool.false_eq_true, if_false]
        exact e1
      · have := k4.at (o + q) (hbound q hq)
        simp only [World.frozen?, k3]
        simp only [Bool.and_eq_false_iff, decide_eq_false_iff_not]
        omega
    have hone : ∀ x : {x : t.den // good x}, ∀ v ∈ (fun x : {x : t.den // good x} => F x.1) x, v.oneCell' = true := fun x v hv => by
      have h2 : scalB (.v v) = true := enc_scal t x.1 (.v v) (by rw [hF]; exact List.mem_map.2 ⟨v, hv, rfl⟩)
      have h3 := scalB_plain (E := E) (w := w) h2 (.v v)
      cases v <;> first | rfl | exact absurd rfl (h3.1 _) | exact absurd rfl (h3.2 _)
    have hcmp : CmpLays P g #[] (fun x : {x : t.den // good x} => F x.1) t.size (fun x y => cf x.1 y.1) s.blk o l.toArray.size w := by
      intro m os dk hdk x y
      have hst : Stays E w (sortWorldK (fun x : {x : t.den // good x} => F x.1) t.size w s.blk o m dk os) := fun b hb hlt => sortWorld_other _ _ _ _ _ _ _ _ (fun e => by
        subst e
        rcases hb with hb | hb
        · exact hents.I 0 _ hown hb
        · exact hents.B 0 _ hown hb) hlt
      have hz := (sortWorld_keep (fun x : {x : t.den // good x} => F x.1) t.size w s.blk o m dk os (fun _ _ => trivial)).size
      have hsatx : ∀ x : t.den, Sat E (sortWorldK (fun x : {x : t.den // good x} => F x.1) t.size w s.blk o m dk os) (.agg (enc t x)) (.agg (F x).toArray) := fun x => by
        rw [hF]
        refine .agg _ _ (fun j => (F x).getD j undef) (by simp) (fun j hj => ?_) (fun j sv hj => ?_)
        · have : j < (F x).length := by simpa using hj
          simp [this]
        · obtain ⟨u, hu, rfl⟩ := list_sat_v (E := E) (w := w) hj
          simp only [List.getD_eq_getElem?_getD, hu]
          exact .v _
      refine cmp_run hC (mk x y) (hside x y) (hrw x y) (hres x y) (E := E) (fun b hb => Nat.lt_of_lt_of_le (hents.Ilt b hb) hz) hents.nil (hents.glob hst (fun _ h => h)) hnames (by rw [hargs]; rfl) (fun j sv hj => ?_)
      rw [hargs] at hj
      match j, hj with
      | 0, hj => obtain rfl := Option.some.inj hj; exact hsatx x.1
      | 1, hj => obtain rfl := Option.some.inj hj; exact hsatx y.1
      | j + 2, hj => exact absurd hj (by simp)
    rw [← hf]
    have hmain := AnyQ.slices_SortFunc_eq (P := P) (ρ := ρ) L t.size (fun w => by rw [ht]; exact run_isAgg hagg w) (fun w => by rw [ht]; exact run_sizeOf hsz w) (fun x : {x : t.den // good x} => F x.1) henc hone (fun x y => cf x.1 y.1) hO g #[] s.blk o c l.toArray w eg hcmp hH hlt (by simpa using hl)
    have hsl : l.toArray.size = l.length := by simp
    rw [hsl] at hmain
    refine hmain.mono ?_
    rintro e w' ⟨rfl, n, os, rfl⟩
    generalize hd : pdq (ltOf fun (x y : {x : t.den // good x}) => cf x.1 y.1) l.toArray 0 l.length (Go.Lib.bitLen l.length) true true = d'
    have hdl : sortD cf l = d'.toList := by unfold sortD; rw [hd]
    have hds : d'.size = l.length := by
      have := hper.length_eq
      rw [hdl] at this
      simpa using this
    have hkeep := sortWorld_keep (fun x : {x : t.den // good x} => F x.1) t.size w s.blk o n d' os (fun _ _ => trivial)
    have hst : Stays E w (sortWorldK (fun x : {x : t.den // good x} => F x.1) t.size w s.blk o n d' os) := hents.stays (hkeep.mono (fun b hb => ⟨0, hb ▸ hown⟩))
    have hat := sortWorld_at (fun x : {x : t.den // good x} => F x.1) t.size w s.blk o n d' os k3
    have hmap : ((sortD cf l).map (·.1)).length = l.length := by rw [List.length_map, hdl]; simpa using hds
    have hrow : EntSat E (sortWorldK (fun x : {x : t.den // good x} => F x.1) t.size w s.blk o n d' os) (fp 0) 0 (.row te t ((sortD cf l).map (·.1))) := by
      refine ⟨s, g0, .inr ⟨o, c, _, fz, by rw [hmap]; exact k1, k2, hat, ?_, by rw [hmap]; exact k5, ?_, fun i x j sv hi hj => ?_⟩⟩
      · unfold putCells; rw [Array.size_mapIdx]; exact k4
      · unfold putCells; rw [Array.size_mapIdx]; exact k6
      · have hil : i < d'.size := by
          have := (List.getElem?_eq_some_iff.1 hi).1
          omega
        have hx : x = (d'[i]).1 := by
          rw [hdl, List.getElem?_map, List.getElem?_eq_getElem (by simpa using hil)] at hi
          simpa using (Option.some.inj hi).symm
        subst hx
        rw [hF] at hj
        obtain ⟨u, hu, rfl⟩ := list_sat_v (E := E) (w := w) hj
        have hjl := (List.getElem?_eq_some_iff.1 hu).1
        rw [hlen] at hjl
        refine ⟨u, ?_, .v u⟩
        have h5 : (i + 1) * t.size ≤ l.length * t.size := Nat.mul_le_mul_right _ (by omega)
        rw [Nat.add_mul, Nat.one_mul] at h5
        have hq : o + i * t.size + j < arr.size := by have := hbound (i * t.size + j) (by omega); omega
        unfold putCells
        rw [Array.getElem?_mapIdx, Array.getElem?_eq_getElem hq, Option.map_some, if_pos ⟨by omega, by rw [size_flatK, hds]; omega⟩]
        have e3 : o + i * t.size + j - o = i * t.size + j := by omega
        rw [e3, get_flatK _ _ _ _ (by rw [hds]; omega)]
        have e4 : (i * t.size + j) / t.size = i := by
          rw [Nat.add_comm, Nat.add_mul_div_right _ _ hpos, Nat.div_eq_of_lt hjl, Nat.zero_add]
        have e5 : (i * t.size + j) % t.size = j := by rw [Nat.add_comm, Nat.add_mul_mod_self_right]; exact Nat.mod_eq_of_lt hjl
        rw [e4, e5, getElem!_pos d' i hil]
        have hjl' : j < (F (d'[i]).1).length := by rw [hlen]; exact hjl
        show some ((F (d'[i]).1)[j]!) = some u
        rw [getElem!_pos _ j hjl', ← hu, List.getElem?_eq_getElem hjl']
    obtain ⟨q1, q2⟩ := EntsSat.write (M := [(0, .row te t (l.map (·.1)))]) (i := 0) (w' := sortWorldK (fun x : {x : t.den // good x} => F x.1) t.size w s.blk o n d' os) hents (s := s) k2 hkeep hrow
    exact ⟨_, E, fp, rfl, .tuple [] #[] (fun _ => undef) rfl (fun j hj => by simp at hj) (fun j sv hj => by simp at hj), q1.congr (fun id => by
      rw [find_upd]
      by_cases h0 : id = 0
      · subst h0; simp [find, keys]
      · have hb : Nat.beq 0 id = false := by rw [← Bool.not_eq_true, Nat.beq_eq]; exact fun e => h0 e.symm
        simp [find, keys, h0, hb, find_sub]), q2, fun _ _ => rfl⟩
end Go.Eng

/-! DERIVED: THE SHELF's CONTRACTS AT THIS DUMP, IN PLAIN WORDS (tools/lay-plain.mjs out of 'TryzSort.lean', which tools/lay-shelf.mjs wrote): THE SAME DECLARATIONS UNDER THE SAME NAMES: 'import', 'namespace', 'open', 'def', 'theorem' AND NOTHING ELSE: no command of the shelf's: FOR A HAND-IN. Each laying: the table of numbers ('.._ren') and one theorem, a field a fact of the dump's own or the kernel's comparison; each contract: ONE APPLICATION. -/



namespace Go.Proofs
open Go.Shelf
def Tryz.sort84_ren : Go.Shelf.Ren := ⟨fun | 6 => 84 | 15 => 103 | 14 => 102 | 28 => 131 | 29 => 132 | 20 => 123 | 21 => 124 | 22 => 125 | 23 => 126 | 24 => 127 | 25 => 128 | 26 => 129 | 27 => 130 | 46 => 143 | 47 => 144 | 48 => 145 | 49 => 146 | 50 => 147 | 57 => 152 | n => n, fun | 22 => 22 | 24 => 57 | 25 => 113 | 3 => 3 | 39 => 117 | 0 => 0 | 53 => 151 | 55 => 69 | 4 => 4 | 46 => 145 | 45 => 144 | 50 => 83 | 5 => 5 | 9 => 9 | 66 => 163 | 70 => 167 | 76 => 178 | 77 => 179 | n => n, fun | n => n⟩
theorem Tryz.sort84 : Go.Proofs.SlLaysF0.n6 Tryz.prog Tryz.sort84_ren := {
  mixed := by kernel_rfl
  f6 := ⟨Tryz.f84.name, by decide, Tryz.func84.trans (congrArg some (by kernel_rfl))⟩
  f14 := ⟨Tryz.f102.name, by decide, Tryz.func102.trans (congrArg some (by kernel_rfl))⟩
  f15 := Tryz.func103.trans (congrArg some (by kernel_rfl))
  f20 := ⟨Tryz.f123.name, by decide, Tryz.func123.trans (congrArg some (by kernel_rfl))⟩
  f21 := ⟨Tryz.f124.name, by decide, Tryz.func124.trans (congrArg some (by kernel_rfl))⟩
  f22 := ⟨Tryz.f125.name, by decide, Tryz.func125.trans (congrArg some (by kernel_rfl))⟩
  f23 := ⟨Tryz.f126.name, by decide, Tryz.func126.trans (congrArg some (by kernel_rfl))⟩
  f24 := ⟨Tryz.f127.name, by decide, Tryz.func127.trans (congrArg some (by kernel_rfl))⟩
  f25 := ⟨Tryz.f128.name, by decide, Tryz.func128.trans (congrArg some (by kernel_rfl))⟩
  f26 := ⟨Tryz.f129.name, by decide, Tryz.func129.trans (congrArg some (by kernel_rfl))⟩
  f27 := ⟨Tryz.f130.name, by decide, Tryz.func130.trans (congrArg some (by kernel_rfl))⟩
  f28 := Tryz.func131.trans (congrArg some (by kernel_rfl))
  f29 := Tryz.func132.trans (congrArg some (by kernel_rfl))
  f46 := ⟨Tryz.f143.name, by decide, Tryz.func143.trans (congrArg some (by kernel_rfl))⟩
  f47 := Tryz.func144.trans (congrArg some (by kernel_rfl))
  f48 := Tryz.func145.trans (congrArg some (by kernel_rfl))
  f49 := ⟨Tryz.f146.name, by decide, Tryz.func146.trans (congrArg some (by kernel_rfl))⟩
  f50 := ⟨Tryz.f147.name, by decide, Tryz.func147.trans (congrArg some (by kernel_rfl))⟩
  f57 := ⟨Tryz.f152.name, by decide, Tryz.func152.trans (congrArg some (by kernel_rfl))⟩
  t0 := Tryz.underlying0
  a0 := Tryz.isAgg0
  z0 := Tryz.sizeOf0
  v0 := Tryz.zeroValue0
  t3 := Tryz.underlying3
  a3 := Tryz.isAgg3
  z3 := Tryz.sizeOf3
  v3 := Tryz.zeroValue3
  t4 := Tryz.underlying4
  a4 := Tryz.isAgg4
  z4 := Tryz.sizeOf4
  v4 := Tryz.zeroValue4
  t5 := Tryz.underlying5
  a5 := Tryz.isAgg5
  z5 := Tryz.sizeOf5
  v5 := Tryz.zeroValue5
  t9 := Tryz.underlying9
  a9 := Tryz.isAgg9
  z9 := Tryz.sizeOf9
  v9 := Tryz.zeroValue9
  t22 := Tryz.underlying22
  a22 := Tryz.isAgg22
  z22 := Tryz.sizeOf22
  v22 := Tryz.zeroValue22
  t25 := Tryz.underlying113
  a25 := Tryz.isAgg113
  z25 := Tryz.sizeOf113
  v25 := Tryz.zeroValue113
  t39 := Tryz.underlying117
  a39 := Tryz.isAgg117
  z39 := Tryz.sizeOf117
  v39 := Tryz.zeroValue117
  t45 := Tryz.underlying144
  a45 := Tryz.isAgg144
  z45 := Tryz.sizeOf144
  v45 := Tryz.zeroValue144
  t46 := Tryz.underlying145
  a46 := Tryz.isAgg145
  z46 := Tryz.sizeOf145
  v46 := Tryz.zeroValue145
  t50 := Tryz.underlying83
  a50 := Tryz.isAgg83
  z50 := Tryz.sizeOf83
  v50 := Tryz.zeroValue83
  t53 := Tryz.underlying151
  a53 := Tryz.isAgg151
  z53 := Tryz.sizeOf151
  v53 := Tryz.zeroValue151
  t55 := Tryz.underlying69
  a55 := Tryz.isAgg69
  z55 := Tryz.sizeOf69
  v55 := Tryz.zeroValue69
  t66 := Tryz.underlying163
  a66 := Tryz.isAgg163
  z66 := Tryz.sizeOf163
  v66 := Tryz.zeroValue163
  t70 := Tryz.underlying167
  a70 := Tryz.isAgg167
  z70 := Tryz.sizeOf167
  v70 := Tryz.zeroValue167
  t76 := Tryz.underlying178
  a76 := Tryz.isAgg178
  z76 := Tryz.sizeOf178
  v76 := Tryz.zeroValue178
  t77 := Tryz.underlying179
  a77 := Tryz.isAgg179
  z77 := Tryz.sizeOf179
  v77 := Tryz.zeroValue179 }
end Go.Proofs

set_option linter.unusedVariables false
set_option linter.unusedSimpArgs false
set_option maxRecDepth 100000
set_option maxHeartbeats 4000000
namespace Go.Proofs.YtoaaieiiamdopaaGreatDoor
open Go.Eng
variable [DM]
set_option linter.unusedSectionVars false
@[reducible] def nanC : Ctr := {
  X := Int
  Y := Unit
  args := fun x => [.v (.int .i64 x)]
  rw := fun _ => []
  side := fun _ => True
  val := fun _ => ()
  ens := fun _ _ => True
  res := fun _ _ => .v (.bool false)
  out := fun _ _ => [] }
theorem nan_ok : nanC.ok Tryz.prog 104 := by
  refine ok_of_vc (An := fun _ => anOf []) (known_nil _) mo Tryz.func104 (by kernel_rfl) (by kernel_rfl) (fun _ _ => trivial) (fun (x : Int) hs => ?_)
  ((repeat' ((conv => whnf) <;> first | exact True.intro | (guard_target =~ Fork _ _ _; first | refine F1 ?_ | refine F2 ?_ | refine F3 (fun h => ?_) fun h => ?_) | (guard_target =~ Ar _ _ _; first | refine A1 ?_ | refine A2 ?_ | refine A3 ?_) | (guard_target =~ Go.Eng.Ask _ _; first | refine K1 ?_) | (guard_target =~ All' _ _; first | (refine Y2 fun y he he' hy => ?_; (try dsimp only at he he' hy)) | (refine Y1 fun y he hy => ?_; (try with_reducible conv at he => (rhs; whnf)); (try dsimp only at he hy)) | (refine All'.mk ?_; intro y hy)) | refine F4 (fun h => ?_) fun h => ?_ | refine R1 ?_ | refine Q1 ?_ | fail)); all_goals (conv => whnf))
  refine AskL.mk ?_ trivial
  simp [conj]
def cmpI (a b : Int) : Int := if a < b then -1 else if b < a then 1 else 0
@[reducible] def cmpC : Ctr := {
  X := Int × Int
  Y := Unit
  args := fun x => [.v (.int .i64 x.1), .v (.int .i64 x.2)]
  rw := fun _ => []
  side := fun _ => True
  val := fun _ => ()
  ens := fun _ _ => True
  res := fun x _ => .v (.int .i64 (cmpI x.1 x.2))
  out := fun _ _ => [] }
theorem knownF0 : Known Tryz.prog (gOf [(104, nanC)]) := known_cons ⟨nan_ok, Tryz.call104⟩ (known_nil _)
theorem cmp_ok : cmpC.ok Tryz.prog 87 := by
  refine ok_of_vc (An := fun _ => anOf []) knownF0 mo Tryz.func87 (by kernel_rfl) (by kernel_rfl) (fun _ _ => trivial) (fun x hs => ?_)
  obtain ⟨a, b⟩ := x
  have h3 : (a < b ∧ cmpI a b = -1) ∨ (b < a ∧ ¬ a < b ∧ cmpI a b = 1) ∨ (¬ a < b ∧ ¬ b < a ∧ cmpI a b = 0) := by
    unfold cmpI
    by_cases h1 : a < b
    · rw [if_pos h1]; exact .inl ⟨h1, rfl⟩
    · rw [if_neg h1]
      by_cases h2 : b < a
      · rw [if_pos h2]; exact .inr (.inl ⟨h2, h1, rfl⟩)
      · rw [if_neg h2]; exact .inr (.inr ⟨h1, h2, rfl⟩)
  rcases h3 with ⟨h1, h2⟩ | ⟨h1, h2, h3⟩ | ⟨h1, h2, h3⟩
  all_goals
    ((repeat' ((conv => whnf) <;> first | exact True.intro | (guard_target =~ Fork _ _ _; first | refine F1 ?_ | refine F2 ?_ | refine F3 (fun h => ?_) fun h => ?_) | (guard_target =~ Ar _ _ _; first | refine A1 ?_ | refine A2 ?_ | refine A3 ?_) | (guard_target =~ AskL _ _; first | refine L1 ?_) | (guard_target =~ Go.Eng.Ask _ _; first | refine K1 ?_) | (guard_target =~ All' _ _; first | (refine Y2 fun y he he' hy => ?_; (try dsimp only at he he' hy)) | (refine Y1 fun y he hy => ?_; (try with_reducible conv at he => (rhs; whnf)); (try dsimp only at he hy)) | (refine All'.mk ?_; intro y hy)) | refine F4 (fun h => ?_) fun h => ?_ | refine R1 ?_ | refine Q1 ?_ | fail)); all_goals (conv => whnf))
    refine CallP.mk (C := nanC) a ?_
    ((repeat' ((conv => whnf) <;> first | exact True.intro | (guard_target =~ Fork _ _ _; first | refine F1 ?_ | refine F2 ?_ | refine F3 (fun h => ?_) fun h => ?_) | (guard_target =~ Ar _ _ _; first | refine A1 ?_ | refine A2 ?_ | refine A3 ?_) | (guard_target =~ AskL _ _; first | refine L1 ?_) | (guard_target =~ Go.Eng.Ask _ _; first | refine K1 ?_) | (guard_target =~ All' _ _; first | (refine Y2 fun y he he' hy => ?_; (try dsimp only at he he' hy)) | (refine Y1 fun y he hy => ?_; (try with_reducible conv at he => (rhs; whnf)); (try dsimp only at he hy)) | (refine All'.mk ?_; intro y hy)) | refine F4 (fun h => ?_) fun h => ?_ | refine R1 ?_ | refine Q1 ?_ | fail)); all_goals (conv => whnf))
    refine CallP.mk (C := nanC) b ?_
    ((repeat' ((conv => whnf) <;> first | exact True.intro | (guard_target =~ Fork _ _ _; first | refine F1 ?_ | refine F2 ?_ | refine F3 (fun h => ?_) fun h => ?_) | (guard_target =~ Ar _ _ _; first | refine A1 ?_ | refine A2 ?_ | refine A3 ?_) | (guard_target =~ AskL _ _; first | refine L1 ?_) | (guard_target =~ Go.Eng.Ask _ _; first | refine K1 ?_) | (guard_target =~ All' _ _; first | (refine Y2 fun y he he' hy => ?_; (try dsimp only at he he' hy)) | (refine Y1 fun y he hy => ?_; (try with_reducible conv at he => (rhs; whnf)); (try dsimp only at he hy)) | (refine All'.mk ?_; intro y hy)) | refine F4 (fun h => ?_) fun h => ?_ | refine R1 ?_ | refine Q1 ?_ | fail)); all_goals (conv => whnf))
/-- The first one that is not 0. -/
def orL : List Int → Int
  | [] => 0
  | x :: l => if x = 0 then orL l else x
@[reducible] def orC : Ctr := {
  X := List Int
  Y := Unit
  args := fun l => [.ro true (.int .i64) l]
  rw := fun _ => []
  side := fun l => l.length ≤ 274877906944
  val := fun _ => ()
  ens := fun _ _ => True
  res := fun l _ => .v (.int .i64 (orL l))
  out := fun _ _ => [] }
@[reducible] def orLp (l : List Int) : LA := {
  X := Nat
  pre := fun i => i ≤ l.length ∧ orL l = orL (l.drop i)
  mu := fun i => l.length - i
  T := fun i => [(3, .v (.int .i64 0)), (6, .ro true (.int .i64) l), (7, .v (.int .i64 l.length)), (8, .v (.int .i64 (i : Nat)))]
  M := fun _ => [] }
theorem or_ok : orC.ok Tryz.prog 86 := by
  refine ok_of_vc (An := fun (l : List Int) => anOf [(0, .loop (orLp l))]) (known_nil _) mo Tryz.func86 (by kernel_rfl) (by kernel_rfl) (fun _ _ => trivial) (fun (l : List Int) hs => ?_)
  have hs : l.length ≤ 274877906944 := hs
  ((repeat' ((conv => whnf) <;> first | exact True.intro | (guard_target =~ Fork _ _ _; first | refine F1 ?_ | refine F2 ?_ | refine F3 (fun h => ?_) fun h => ?_) | (guard_target =~ Ar _ _ _; first | refine A1 ?_ | refine A2 ?_ | refine A3 ?_) | (guard_target =~ AskL _ _; first | refine L1 ?_) | (guard_target =~ Go.Eng.Ask _ _; first | refine K1 ?_) | (guard_target =~ All' _ _; first | (refine Y2 fun y he he' hy => ?_; (try dsimp only at he he' hy)) | (refine Y1 fun y he hy => ?_; (try with_reducible conv at he => (rhs; whnf)); (try dsimp only at he hy)) | (refine All'.mk ?_; intro y hy)) | refine F4 (fun h => ?_) fun h => ?_ | refine R1 ?_ | refine Q1 ?_ | fail)); all_goals (conv => whnf))
  refine Some'.mk (0 : Nat) ?_
  ((repeat' ((conv => whnf) <;> first | exact True.intro | (guard_target =~ Fork _ _ _; first | refine F1 ?_ | refine F2 ?_ | refine F3 (fun h => ?_) fun h => ?_) | (guard_target =~ Ar _ _ _; first | refine A1 ?_ | refine A2 ?_ | refine A3 ?_) | (guard_target =~ AskL _ _; first | refine L1 ?_) | (guard_target =~ Go.Eng.Ask _ _; first | refine K1 ?_) | (guard_target =~ All' _ _; first | (refine Y2 fun y he he' hy => ?_; (try dsimp only at he he' hy)) | (refine Y1 fun y he hy => ?_; (try with_reducible conv at he => (rhs; whnf)); (try dsimp only at he hy)) | (refine All'.mk ?_; intro y hy)) | refine F4 (fun h => ?_) fun h => ?_ | refine R1 ?_ | refine Q1 ?_ | fail)); all_goals (conv => whnf))
  refine Ask.mk ⟨Nat.zero_le _, rfl⟩ ?_
  refine AllI.mk ?_
  rintro (i : Nat) ⟨h1, h2⟩
  have h1 : i ≤ l.length := h1
  have h2 : orL l = orL (l.drop i) := h2
  by_cases hi : i = l.length
  · subst hi
    rw [List.drop_length] at h2
    have h2 : orL l = 0 := h2
    exact G1
  · obtain ⟨e, he⟩ : ∃ e, l[i]? = some e := ⟨_, List.getElem?_eq_getElem (by omega)⟩
    rw [drop_sn he] at h2
    by_cases h0 : e = 0
    · have h3 : orL l = orL (l.drop (i + 1)) := by rw [h2]; exact if_pos h0
      ((repeat' ((conv => whnf) <;> first | exact True.intro | (guard_target =~ Fork _ _ _; first | refine F1 ?_ | refine F2 ?_ | refine F3 (fun h => ?_) fun h => ?_) | (guard_target =~ Ar _ _ _; first | refine A1 ?_ | refine A2 ?_ | refine A3 ?_) | (guard_target =~ AskL _ _; first | refine L1 ?_) | (guard_target =~ Go.Eng.Ask _ _; first | refine K1 ?_) | (guard_target =~ All' _ _; first | (refine Y2 fun y he he' hy => ?_; (try dsimp only at he he' hy)) | (refine Y1 fun y he hy => ?_; (try with_reducible conv at he => (rhs; whnf)); (try dsimp only at he hy))) | refine F4 (fun h => ?_) fun h => ?_ | refine R1 ?_ | refine Q1 ?_ | fail)); all_goals (conv => whnf))
      refine All'.mk ?_; rintro (e' : Int) he'
      obtain rfl : e = e' := Option.some.inj (he.symm.trans he')
      ((repeat' ((conv => whnf) <;> first | exact True.intro | (guard_target =~ Fork _ _ _; first | refine F1 ?_ | refine F2 ?_ | refine F3 (fun h => ?_) fun h => ?_) | (guard_target =~ Ar _ _ _; first | refine A1 ?_ | refine A2 ?_ | refine A3 ?_) | (guard_target =~ AskL _ _; first | refine L1 ?_) | (guard_target =~ Go.Eng.Ask _ _; first | refine K1 ?_) | (guard_target =~ All' _ _; first | (refine Y2 fun y he he' hy => ?_; (try dsimp only at he he' hy)) | (refine Y1 fun y he hy => ?_; (try with_reducible conv at he => (rhs; whnf)); (try dsimp only at he hy)) | (refine All'.mk ?_; intro y hy)) | refine F4 (fun h => ?_) fun h => ?_ | refine R1 ?_ | refine Q1 ?_ | fail)); all_goals (conv => whnf))
      refine Some'.mk (i + 1 : Nat) ?_
      exact G1
    · have h3 : orL l = e := by rw [h2]; exact if_neg h0
      ((repeat' ((conv => whnf) <;> first | exact True.intro | (guard_target =~ Fork _ _ _; first | refine F1 ?_ | refine F2 ?_ | refine F3 (fun h => ?_) fun h => ?_) | (guard_target =~ Ar _ _ _; first | refine A1 ?_ | refine A2 ?_ | refine A3 ?_) | (guard_target =~ AskL _ _; first | refine L1 ?_) | (guard_target =~ Go.Eng.Ask _ _; first | refine K1 ?_) | (guard_target =~ All' _ _; first | (refine Y2 fun y he he' hy => ?_; (try dsimp only at he he' hy)) | (refine Y1 fun y he hy => ?_; (try with_reducible conv at he => (rhs; whnf)); (try dsimp only at he hy))) | refine F4 (fun h => ?_) fun h => ?_ | refine R1 ?_ | refine Q1 ?_ | fail)); all_goals (conv => whnf))
      refine All'.mk ?_; rintro (e' : Int) he'
      obtain rfl : e = e' := Option.some.inj (he.symm.trans he')
      exact G1
def cfR (a b : Run) : Int := orL [cmpI a.1 b.1, cmpI a.2.1 b.2.1]
theorem cfR_lt (a b : Run) : cfR a b < 0 ↔ (a.1 < b.1 ∨ a.1 = b.1 ∧ a.2.1 < b.2.1) := by
  unfold cfR orL orL orL cmpI
  repeat' split
  all_goals omega
@[reducible] def cfC : Ctr := {
  X := Run × Run
  Y := Unit
  args := fun x => [.agg (runS x.1), .agg (runS x.2)]
  rw := fun _ => []
  side := fun _ => True
  val := fun _ => ()
  ens := fun _ _ => True
  res := fun x _ => .v (.int .i64 (cfR x.1 x.2))
  out := fun _ _ => [] }
theorem knownF1 : Known Tryz.prog (gOf [(87, cmpC), (86, orC)]) := known_cons ⟨cmp_ok, Tryz.call87⟩ (known_cons ⟨or_ok, Tryz.call86⟩ (known_nil _))
theorem cf_ok : cfC.ok Tryz.prog 85 := by
  refine ok_of_vc (An := fun _ => anOf []) knownF1 mo Tryz.func85 (by kernel_rfl) (by kernel_rfl) (fun _ _ => trivial) (fun x hs => ?_)
  obtain ⟨⟨a, b, c⟩, ⟨d, e, f⟩⟩ := x
  ((repeat' ((conv => whnf) <;> first | exact True.intro | (guard_target =~ Fork _ _ _; first | refine F1 ?_ | refine F2 ?_ | refine F3 (fun h => ?_) fun h => ?_) | (guard_target =~ Ar _ _ _; first | refine A1 ?_ | refine A2 ?_ | refine A3 ?_) | (guard_target =~ AskL _ _; first | refine L1 ?_) | (guard_target =~ Go.Eng.Ask _ _; first | refine K1 ?_) | (guard_target =~ All' _ _; first | (refine Y2 fun y he he' hy => ?_; (try dsimp only at he he' hy)) | (refine Y1 fun y he hy => ?_; (try with_reducible conv at he => (rhs; whnf)); (try dsimp only at he hy)) | (refine All'.mk ?_; intro y hy)) | refine F4 (fun h => ?_) fun h => ?_ | refine R1 ?_ | refine Q1 ?_ | fail)); all_goals (conv => whnf))
  refine CallP.mk (C := cmpC) (a, d) ?_
  ((repeat' ((conv => whnf) <;> first | exact True.intro | (guard_target =~ Fork _ _ _; first | refine F1 ?_ | refine F2 ?_ | refine F3 (fun h => ?_) fun h => ?_) | (guard_target =~ Ar _ _ _; first | refine A1 ?_ | refine A2 ?_ | refine A3 ?_) | (guard_target =~ AskL _ _; first | refine L1 ?_) | (guard_target =~ Go.Eng.Ask _ _; first | refine K1 ?_) | (guard_target =~ All' _ _; first | (refine Y2 fun y he he' hy => ?_; (try dsimp only at he he' hy)) | (refine Y1 fun y he hy => ?_; (try with_reducible conv at he => (rhs; whnf)); (try dsimp only at he hy)) | (refine All'.mk ?_; intro y hy)) | refine F4 (fun h => ?_) fun h => ?_ | refine R1 ?_ | refine Q1 ?_ | fail)); all_goals (conv => whnf))
  refine CallP.mk (C := cmpC) (b, e) ?_
  ((repeat' ((conv => whnf) <;> first | exact True.intro | (guard_target =~ Fork _ _ _; first | refine F1 ?_ | refine F2 ?_ | refine F3 (fun h => ?_) fun h => ?_) | (guard_target =~ Ar _ _ _; first | refine A1 ?_ | refine A2 ?_ | refine A3 ?_) | (guard_target =~ AskL _ _; first | refine L1 ?_) | (guard_target =~ Go.Eng.Ask _ _; first | refine K1 ?_) | (guard_target =~ All' _ _; first | (refine Y2 fun y he he' hy => ?_; (try dsimp only at he he' hy)) | (refine Y1 fun y he hy => ?_; (try with_reducible conv at he => (rhs; whnf)); (try dsimp only at he hy)) | (refine All'.mk ?_; intro y hy)) | refine F4 (fun h => ?_) fun h => ?_ | refine R1 ?_ | refine Q1 ?_ | fail)); all_goals (conv => whnf))
  refine CallP.mk (C := orC) [cmpI a d, cmpI b e] ?_
  exact G1
instance : Inhabited {r : runT.den // (fun _ : Run => True) r} := ⟨⟨((0 : Int), (0 : Int), (0 : Int)), trivial⟩⟩
abbrev anyR (_ : runT.den) : Prop := True
instance inhR : Inhabited {r : runT.den // anyR r} := ⟨⟨((0 : Int), (0 : Int), (0 : Int)), trivial⟩⟩
theorem cf_swo : Go.Sort.SWO (Go.Proofs.ltOf fun (x y : {r : runT.den // anyR r}) => cfR x.1 y.1) := by
  refine ⟨fun x => ?_, fun x y z h1 h2 => ?_, fun x y z h1 h2 => ?_⟩
  · refine decide_eq_false ?_
    rw [cfR_lt]; omega
  · have h1 := (cfR_lt _ _).1 (of_decide_eq_true h1)
    have h2 := (cfR_lt _ _).1 (of_decide_eq_true h2)
    refine decide_eq_true ((cfR_lt _ _).2 ?_)
    omega
  · have h1 := mt (cfR_lt x.1 y.1).2 (of_decide_eq_false h1)
    have h2 := mt (cfR_lt y.1 z.1).2 (of_decide_eq_false h2)
    refine decide_eq_false (fun h => ?_)
    have h := (cfR_lt x.1 z.1).1 h
    omega
@[reducible] noncomputable def sortRC : Ctr := sortC 85 57 runT anyR cfR
theorem sortR_ok : sortRC.ok Tryz.prog 84 :=
  sort_ok Tryz.sort84 rfl rfl (by kernel_rfl) (by kernel_rfl) (by decide) (fun r => [.int .i64 r.1, .int .i64 r.2.1, .int .i64 r.2.2]) (fun _ => rfl) cf_swo
    Tryz.call85 (C := cfC) (@cf_ok dmT) (fun x y => (x.1, y.1)) (fun _ _ => trivial) (fun _ _ => rfl) (fun _ _ => rfl) (fun _ _ => rfl)
abbrev anyL (l : List Run) : List {r : runT.den // anyR r} := l.map fun r => ⟨r, trivial⟩
theorem anyL_map (l : List Run) : (anyL l).map (·.1) = l := by
  show (l.map _).map _ = l
  rw [List.map_map]; exact List.map_id l
noncomputable def sortR (l : List Run) : List Run := (sortD cfR (anyL l)).map (·.1)
theorem sortR_perm (l : List Run) : (sortR l).Perm l ∧ (sortR l).Pairwise keyLe := by
  obtain ⟨h1, h2⟩ := sortD_perm cf_swo (anyL l)
  refine ⟨?_, ?_⟩
  · have := h1.map (·.1)
    rwa [anyL_map] at this
  · unfold sortR
    rw [List.pairwise_map]
    refine h2.imp fun {a b} h => ?_
    rw [cfR_lt] at h
    unfold keyLe
    omega

def stepM (out : List Run) (r : Run) : List Run := match out.getLast? with
  | some p => if p.1 = r.1 ∧ r.2.1 - 1 ≤ p.2.2 then out.dropLast ++ [(p.1, p.2.1, max p.2.2 r.2.2)] else out ++ [r]
  | none => out ++ [r]
theorem mrg_cons (out : List Run) (r : Run) (l : List Run) : mrg out (r :: l) = mrg (stepM out r) l := by
  conv => lhs; unfold mrg
  unfold stepM
  cases out.getLast? with
  | none => rfl
  | some p => dsimp only; split <;> rfl
theorem mrg_snoc : ∀ (l out : List Run) (r : Run), mrg out (l ++ [r]) = stepM (mrg out l) r
  | [], out, r => by show mrg out [r] = _; rw [mrg_cons]; rfl
  | x :: l, out, r => by rw [List.cons_append, mrg_cons, mrg_cons]; exact mrg_snoc l _ r
theorem stepM_len (out : List Run) (r : Run) : (stepM out r).length ≤ out.length + 1 := by
  unfold stepM
  split
  · split
    · simp only [List.length_append, List.length_dropLast, List.length_singleton]; omega
    · simp
  · simp
theorem mrg_len : ∀ (l out : List Run), (mrg out l).length ≤ out.length + l.length
  | [], out => Nat.le_refl _
  | x :: l, out => by
    rw [mrg_cons]
    have h1 := mrg_len l (stepM out x)
    have h2 := stepM_len out x
    simp only [List.length_cons]; omega
theorem step_last {out : List Run} {p r : Run} (h : out[out.length - 1]? = some p) :
    stepM out r = if p.1 = r.1 ∧ r.2.1 - 1 ≤ p.2.2 then out.set (out.length - 1) (p.1, p.2.1, max p.2.2 r.2.2) else out ++ [r] := by
  unfold stepM
  rw [List.getLast?_eq_getElem?, h]
  dsimp only
  split
  · have hne : out ≠ [] := fun e => by rw [e] at h; simp at h
    have hl : 0 < out.length := List.length_pos_iff.2 hne
    rw [List.dropLast_eq_take]
    have e1 : out = out.take (out.length - 1) ++ [p] := by
      have := take_sn h
      rw [← this, show out.length - 1 + 1 = out.length by omega, List.take_length]
    have e2 : (out.take (out.length - 1)).length = out.length - 1 := by rw [List.length_take]; omega
    conv => rhs; rw [e1]
    rw [List.length_append, e2, List.length_singleton, show out.length - 1 + 1 - 1 = out.length - 1 by omega, List.set_append_right _ _ (by omega), e2, Nat.sub_self]
    rfl
  · rfl
@[reducible] noncomputable def mergedC : Ctr := {
  X := List Run
  Y := Unit
  args := fun _ => [.sl 0]
  rw := fun l => [(0, .row 57 runT l)]
  side := fun l => (∀ r, r ∈ l → runP r) ∧ l.length ≤ 1000000
  val := fun _ => ()
  ens := fun _ _ => True
  res := fun _ _ => .sl 1000
  out := fun l _ => [(1000, .row 57 runT (mrg [] (sortR l)))] }
@[reducible] noncomputable def mergedL (l : List Run) : LA := {
  X := Nat
  pre := fun i => i ≤ (sortR l).length
  mu := fun i => (sortR l).length - i
  T := fun i => [(3, .sl 4), (9, .sl 0), (10, .v (.int .i64 (sortR l).length)), (11, .v (.int .i64 (i : Nat)))]
  M := fun i => [(0, .row 57 runT (sortR l)), (4, .row 57 runT (mrg [] ((sortR l).take i)))] }
theorem knownF2 : Known Tryz.prog (gOf [(84, sortRC)]) := known_cons ⟨sortR_ok, Tryz.call84⟩ (known_nil _)
theorem merged_ok : mergedC.ok Tryz.prog 65 := by
  refine ok_of_vc (An := fun (l : List Run) => anOf [(0, .loop (mergedL l))]) knownF2 mo Tryz.func65 (by kernel_rfl) (by kernel_rfl) (fun _ _ => trivial) (fun (l : List Run) hs => ?_)
  obtain ⟨hr, hl⟩ := hs
  have hl : l.length ≤ 1000000 := hl
  have hr : ∀ r, r ∈ l → runP r := hr
  obtain ⟨hp, hsrt⟩ := sortR_perm l
  have hrs : ∀ r, r ∈ sortR l → runP r := fun r h => hr r (hp.mem_iff.1 h)
  have hsl : (sortR l).length = l.length := hp.length_eq
  have hal := anyL_map l
  have hall : (anyL l).length = l.length := List.length_map ..
  ((repeat' ((conv => whnf) <;> first | exact True.intro | (guard_target =~ Fork _ _ _; first | refine F1 ?_ | refine F2 ?_ | refine F3 (fun h => ?_) fun h => ?_) | (guard_target =~ Ar _ _ _; first | refine A1 ?_ | refine A2 ?_ | refine A3 ?_) | (guard_target =~ AskL _ _; first | refine L1 ?_) | (guard_target =~ Go.Eng.Ask _ _; first | refine K1 ?_) | (guard_target =~ All' _ _; first | (refine Y2 fun y he he' hy => ?_; (try dsimp only at he he' hy)) | (refine Y1 fun y he hy => ?_; (try with_reducible conv at he => (rhs; whnf)); (try dsimp only at he hy)) | (refine All'.mk ?_; intro y hy)) | refine F4 (fun h => ?_) fun h => ?_ | refine R1 ?_ | refine Q1 ?_ | fail)); all_goals (conv => whnf))
  refine CallP.mk (C := sortRC) (anyL l) ?_
  ((repeat' ((conv => whnf) <;> first | exact True.intro | (guard_target =~ Fork _ _ _; first | refine F1 ?_ | refine F2 ?_ | refine F3 (fun h => ?_) fun h => ?_) | (guard_target =~ Ar _ _ _; first | refine A1 ?_ | refine A2 ?_ | refine A3 ?_) | (guard_target =~ Go.Eng.Ask _ _; first | refine K1 ?_) | (guard_target =~ All' _ _; first | (refine Y2 fun y he he' hy => ?_; (try dsimp only at he he' hy)) | (refine Y1 fun y he hy => ?_; (try with_reducible conv at he => (rhs; whnf)); (try dsimp only at he hy)) | (refine All'.mk ?_; intro y hy)) | refine F4 (fun h => ?_) fun h => ?_ | refine R1 ?_ | refine Q1 ?_ | fail)); all_goals (conv => whnf))
  refine AskL.mk ?_ ?_
  · show SV.ro true runT l = SV.ro true runT ((anyL l).map (·.1))
    rw [hal]
  refine Ask.mk (by show (anyL l).length < _; omega) ?_
  ((repeat' ((conv => whnf) <;> first | exact True.intro | (guard_target =~ Fork _ _ _; first | refine F1 ?_ | refine F2 ?_ | refine F3 (fun h => ?_) fun h => ?_) | (guard_target =~ Ar _ _ _; first | refine A1 ?_ | refine A2 ?_ | refine A3 ?_) | (guard_target =~ AskL _ _; first | refine L1 ?_) | (guard_target =~ Go.Eng.Ask _ _; first | refine K1 ?_) | (guard_target =~ All' _ _; first | (refine Y2 fun y he he' hy => ?_; (try dsimp only at he he' hy)) | (refine Y1 fun y he hy => ?_; (try with_reducible conv at he => (rhs; whnf)); (try dsimp only at he hy)) | (refine All'.mk ?_; intro y hy)) | refine F4 (fun h => ?_) fun h => ?_ | refine R1 ?_ | refine Q1 ?_ | fail)); all_goals (conv => whnf))
  refine Some'.mk (0 : Nat) ?_
  have hm0 : mrg [] ((sortR l).take 0) = [] := rfl
  ((repeat' ((conv => whnf) <;> first | exact True.intro | (guard_target =~ Fork _ _ _; first | refine F1 ?_ | refine F2 ?_ | refine F3 (fun h => ?_) fun h => ?_) | (guard_target =~ Ar _ _ _; first | refine A1 ?_ | refine A2 ?_ | refine A3 ?_) | (guard_target =~ Go.Eng.Ask _ _; first | refine K1 ?_) | (guard_target =~ All' _ _; first | (refine Y2 fun y he he' hy => ?_; (try dsimp only at he he' hy)) | (refine Y1 fun y he hy => ?_; (try with_reducible conv at he => (rhs; whnf)); (try dsimp only at he hy)) | (refine All'.mk ?_; intro y hy)) | refine F4 (fun h => ?_) fun h => ?_ | refine R1 ?_ | refine Q1 ?_ | fail)); all_goals (conv => whnf))
  refine AskL.mk ?_ ?_
  · (dsimp only [conj]; repeat' apply And.intro) <;> first | rfl | (show (((sortD cfR (anyL l)).map (·.1)).length : Int) = ((sortR l).length : Nat); rfl)
  ((repeat' ((conv => whnf) <;> first | exact True.intro | (guard_target =~ Fork _ _ _; first | refine F1 ?_ | refine F2 ?_ | refine F3 (fun h => ?_) fun h => ?_) | (guard_target =~ Ar _ _ _; first | refine A1 ?_ | refine A2 ?_ | refine A3 ?_) | (guard_target =~ AskL _ _; first | refine L1 ?_) | (guard_target =~ Go.Eng.Ask _ _; first | refine K1 ?_) | (guard_target =~ All' _ _; first | (refine Y2 fun y he he' hy => ?_; (try dsimp only at he he' hy)) | (refine Y1 fun y he hy => ?_; (try with_reducible conv at he => (rhs; whnf)); (try dsimp only at he hy)) | (refine All'.mk ?_; intro y hy)) | refine F4 (fun h => ?_) fun h => ?_ | refine R1 ?_ | refine Q1 ?_ | fail)); all_goals (conv => whnf))
  refine AllI.mk ?_
  rintro (i : Nat) hi
  have hi : i ≤ (sortR l).length := hi
  have hml := mrg_len ((sortR l).take i) []
  rw [List.length_take, List.length_nil] at hml
  by_cases hil : i = (sortR l).length
  · subst hil
    have htk : (sortR l).take (sortR l).length = sortR l := List.take_length
    dsimp only [mergedL]
    rw [htk]
    exact G1
  · obtain ⟨⟨m, f, t⟩, he⟩ : ∃ e, (sortR l)[i]? = some e := ⟨_, List.getElem?_eq_getElem (by omega)⟩
    obtain ⟨b1, b2, b3, b4, b5⟩ : runP (m, f, t) := hrs _ (List.mem_of_getElem? he)
    dsimp only at b1 b2 b3 b4 b5
    have hsn : mrg [] ((sortR l).take (i + 1)) = stepM (mrg [] ((sortR l).take i)) (m, f, t) := by rw [take_sn he, mrg_snoc]
    have hsl2 := stepM_len (mrg [] ((sortR l).take i)) (m, f, t)
    dsimp only [mergedL]
    generalize mrg [] ((sortR l).take i) = out at hml hsn hsl2
    rcases List.eq_nil_or_concat out with rfl | ⟨o, p, rfl⟩
    · have hst : stepM [] (m, f, t) = [] ++ [(m, f, t)] := rfl
      rw [hst] at hsn
      have hnl : ([] : List Run).length = 0 := rfl
      ((repeat' ((conv => whnf) <;> first | exact True.intro | (guard_target =~ Fork _ _ _; first | refine F1 ?_ | refine F2 ?_ | refine F3 (fun h => ?_) fun h => ?_) | (guard_target =~ Ar _ _ _; first | refine A1 ?_ | refine A2 ?_ | refine A3 ?_) | (guard_target =~ AskL _ _; first | refine L1 ?_) | (guard_target =~ Go.Eng.Ask _ _; first | refine K1 ?_) | (guard_target =~ All' _ _; first | (refine Y2 fun y he he' hy => ?_; (try dsimp only at he he' hy)) | (refine Y1 fun y he hy => ?_; (try with_reducible conv at he => (rhs; whnf)); (try dsimp only at he hy))) | refine F4 (fun h => ?_) fun h => ?_ | refine R1 ?_ | refine Q1 ?_ | fail)); all_goals (conv => whnf))
      refine All'.mk ?_; rintro (e' : Run) he'
      obtain rfl : (m, f, t) = e' := Option.some.inj (he.symm.trans he')
      clear he'
      ((repeat' ((conv => whnf) <;> first | exact True.intro | (guard_target =~ Fork _ _ _; first | refine F1 ?_ | refine F2 ?_ | refine F3 (fun h => ?_) fun h => ?_) | (guard_target =~ Ar _ _ _; first | refine A1 ?_ | refine A2 ?_ | refine A3 ?_) | (guard_target =~ AskL _ _; first | refine L1 ?_) | (guard_target =~ Go.Eng.Ask _ _; first | refine K1 ?_) | (guard_target =~ All' _ _; first | (refine Y2 fun y he he' hy => ?_; (try dsimp only at he he' hy)) | (refine Y1 fun y he hy => ?_; (try with_reducible conv at he => (rhs; whnf)); (try dsimp only at he hy)) | (refine All'.mk ?_; intro y hy)) | refine F4 (fun h => ?_) fun h => ?_ | refine R1 ?_ | refine Q1 ?_ | fail)); all_goals (conv => whnf))
      refine Some'.mk (i + 1 : Nat) ?_
      dsimp only [mergedL]
      rw [hsn]
      exact G1
    · rw [List.concat_eq_append] at *
      have hlast : (o ++ [p])[(o ++ [p]).length - 1]? = some p := by simp
      have hst := step_last (r := (m, f, t)) hlast
      have hol : (o ++ [p]).length = o.length + 1 := by simp
      obtain ⟨pn, pf, pt⟩ := p
      ((repeat' ((conv => whnf) <;> first | exact True.intro | (guard_target =~ Fork _ _ _; first | refine F1 ?_ | refine F2 ?_ | refine F3 (fun h => ?_) fun h => ?_) | (guard_target =~ Ar _ _ _; first | refine A1 ?_ | refine A2 ?_ | refine A3 ?_) | (guard_target =~ AskL _ _; first | refine L1 ?_) | (guard_target =~ Go.Eng.Ask _ _; first | refine K1 ?_) | (guard_target =~ All' _ _; first | (refine Y2 fun y he he' hy => ?_; (try dsimp only at he he' hy)) | (refine Y1 fun y he hy => ?_; (try with_reducible conv at he => (rhs; whnf)); (try dsimp only at he hy))) | refine F4 (fun h => ?_) fun h => ?_ | refine R1 ?_ | refine Q1 ?_ | fail)); all_goals (conv => whnf))
      refine All'.mk ?_; rintro (e' : Run) he'
      obtain rfl : (m, f, t) = e' := Option.some.inj (he.symm.trans he')
      clear he'
      have ld : ∀ e' : Run, (o ++ [(pn, pf, pt)])[(((o ++ [(pn, pf, pt)]).length : Int) - 1).toNat]? = some e' → (pn, pf, pt) = e' := fun e' he' => Option.some.inj (hlast.symm.trans (by rw [← he']; congr 1; omega))
      by_cases hc : pn = m ∧ f - 1 ≤ pt
      · rw [if_pos hc] at hst
        rw [hst] at hsn
        obtain ⟨hc1, hc2⟩ := hc
        ((repeat' ((conv => whnf) <;> first | exact True.intro | (guard_target =~ Fork _ _ _; first | refine F1 ?_ | refine F2 ?_ | refine F3 (fun h => ?_) fun h => ?_) | (guard_target =~ Ar _ _ _; first | refine A1 ?_ | refine A2 ?_ | refine A3 ?_) | (guard_target =~ AskL _ _; first | refine L1 ?_) | (guard_target =~ Go.Eng.Ask _ _; first | refine K1 ?_) | (guard_target =~ All' _ _; first | (refine Y2 fun y he he' hy => ?_; (try dsimp only at he he' hy)) | (refine Y1 fun y he hy => ?_; (try with_reducible conv at he => (rhs; whnf)); (try dsimp only at he hy))) | refine F4 (fun h => ?_) fun h => ?_ | refine R1 ?_ | refine Q1 ?_ | fail)); all_goals (conv => whnf))
        refine All'.mk ?_; rintro (e' : Run) he'
        obtain rfl := ld e' he'
        ((repeat' ((conv => whnf) <;> first | exact True.intro | (guard_target =~ Fork _ _ _; first | refine F1 ?_ | refine F2 ?_ | refine F3 (fun h => ?_) fun h => ?_) | (guard_target =~ Ar _ _ _; first | refine A1 ?_ | refine A2 ?_ | refine A3 ?_) | (guard_target =~ AskL _ _; first | refine L1 ?_) | (guard_target =~ Go.Eng.Ask _ _; first | refine K1 ?_) | (guard_target =~ All' _ _; first | (refine Y2 fun y he he' hy => ?_; (try dsimp only at he he' hy)) | (refine Y1 fun y he hy => ?_; (try with_reducible conv at he => (rhs; whnf)); (try dsimp only at he hy))) | refine F4 (fun h => ?_) fun h => ?_ | refine R1 ?_ | refine Q1 ?_ | fail)); all_goals (conv => whnf))
        refine All'.mk ?_; rintro (e' : Run) he'
        obtain rfl := ld e' he'
        ((repeat' ((conv => whnf) <;> first | exact True.intro | (guard_target =~ Fork _ _ _; first | refine F1 ?_ | refine F2 ?_ | refine F3 (fun h => ?_) fun h => ?_) | (guard_target =~ Ar _ _ _; first | refine A1 ?_ | refine A2 ?_ | refine A3 ?_) | (guard_target =~ AskL _ _; first | refine L1 ?_) | (guard_target =~ Go.Eng.Ask _ _; first | refine K1 ?_) | (guard_target =~ All' _ _; first | (refine Y2 fun y he he' hy => ?_; (try dsimp only at he he' hy)) | (refine Y1 fun y he hy => ?_; (try with_reducible conv at he => (rhs; whnf)); (try dsimp only at he hy))) | refine F4 (fun h => ?_) fun h => ?_ | refine R1 ?_ | refine Q1 ?_ | fail)); all_goals (conv => whnf))
        refine All'.mk ?_; rintro (e' : Run) he'
        obtain rfl := ld e' he'
        ((repeat' ((conv => whnf) <;> first | exact True.intro | (guard_target =~ Fork _ _ _; first | refine F1 ?_ | refine F2 ?_ | refine F3 (fun h => ?_) fun h => ?_) | (guard_target =~ Ar _ _ _; first | refine A1 ?_ | refine A2 ?_ | refine A3 ?_) | (guard_target =~ AskL _ _; first | refine L1 ?_) | (guard_target =~ Go.Eng.Ask _ _; first | refine K1 ?_) | (guard_target =~ All' _ _; first | (refine Y2 fun y he he' hy => ?_; (try dsimp only at he he' hy)) | (refine Y1 fun y he hy => ?_; (try with_reducible conv at he => (rhs; whnf)); (try dsimp only at he hy))) | refine F4 (fun h => ?_) fun h => ?_ | refine R1 ?_ | refine Q1 ?_ | fail)); all_goals (conv => whnf))
        refine All'.mk ?_; rintro (e' : Run) he'
        obtain rfl := ld e' he'
        refine Some'.mk ((pn, pf, max pt t) : Run) ?_
        refine Eqn.mk rfl ?_
        have hix : (((o ++ [(pn, pf, pt)]).length : Int) - 1).toNat = (o ++ [(pn, pf, pt)]).length - 1 := by omega
        ((repeat' ((conv => whnf) <;> first | exact True.intro | (guard_target =~ Fork _ _ _; first | refine F1 ?_ | refine F2 ?_ | refine F3 (fun h => ?_) fun h => ?_) | (guard_target =~ Ar _ _ _; first | refine A1 ?_ | refine A2 ?_ | refine A3 ?_) | (guard_target =~ AskL _ _; first | refine L1 ?_) | (guard_target =~ Go.Eng.Ask _ _; first | refine K1 ?_) | (guard_target =~ All' _ _; first | (refine Y2 fun y he he' hy => ?_; (try dsimp only at he he' hy)) | (refine Y1 fun y he hy => ?_; (try with_reducible conv at he => (rhs; whnf)); (try dsimp only at he hy))) | refine F4 (fun h => ?_) fun h => ?_ | refine R1 ?_ | refine Q1 ?_ | fail)); all_goals (conv => whnf))
        refine Some'.mk (i + 1 : Nat) ?_
        dsimp only [mergedL]
        rw [hsn]
        ((repeat' ((conv => whnf) <;> first | exact True.intro | (guard_target =~ Fork _ _ _; first | refine F1 ?_ | refine F2 ?_ | refine F3 (fun h => ?_) fun h => ?_) | (guard_target =~ Ar _ _ _; first | refine A1 ?_ | refine A2 ?_ | refine A3 ?_) | (guard_target =~ Go.Eng.Ask _ _; first | refine K1 ?_) | (guard_target =~ All' _ _; first | (refine Y2 fun y he he' hy => ?_; (try dsimp only at he he' hy)) | (refine Y1 fun y he hy => ?_; (try with_reducible conv at he => (rhs; whnf)); (try dsimp only at he hy)) | (refine All'.mk ?_; intro y hy)) | refine F4 (fun h => ?_) fun h => ?_ | refine R1 ?_ | refine Q1 ?_ | fail)); all_goals (conv => whnf))
        refine AskL.mk ?_ ?_
        · (dsimp only [conj]; repeat' apply And.intro) <;> first | rfl | omega | (rw [← hix])
        exact G1
      · rw [if_neg hc] at hst
        rw [hst] at hsn
        by_cases hpm : pn = m
        · have hft : ¬ f - 1 ≤ pt := fun h => hc ⟨hpm, h⟩
          ((repeat' ((conv => whnf) <;> first | exact True.intro | (guard_target =~ Fork _ _ _; first | refine F1 ?_ | refine F2 ?_ | refine F3 (fun h => ?_) fun h => ?_) | (guard_target =~ Ar _ _ _; first | refine A1 ?_ | refine A2 ?_ | refine A3 ?_) | (guard_target =~ AskL _ _; first | refine L1 ?_) | (guard_target =~ Go.Eng.Ask _ _; first | refine K1 ?_) | (guard_target =~ All' _ _; first | (refine Y2 fun y he he' hy => ?_; (try dsimp only at he he' hy)) | (refine Y1 fun y he hy => ?_; (try with_reducible conv at he => (rhs; whnf)); (try dsimp only at he hy))) | refine F4 (fun h => ?_) fun h => ?_ | refine R1 ?_ | refine Q1 ?_ | fail)); all_goals (conv => whnf))
          refine All'.mk ?_; rintro (e' : Run) he'
          obtain rfl := ld e' he'
          ((repeat' ((conv => whnf) <;> first | exact True.intro | (guard_target =~ Fork _ _ _; first | refine F1 ?_ | refine F2 ?_ | refine F3 (fun h => ?_) fun h => ?_) | (guard_target =~ Ar _ _ _; first | refine A1 ?_ | refine A2 ?_ | refine A3 ?_) | (guard_target =~ AskL _ _; first | refine L1 ?_) | (guard_target =~ Go.Eng.Ask _ _; first | refine K1 ?_) | (guard_target =~ All' _ _; first | (refine Y2 fun y he he' hy => ?_; (try dsimp only at he he' hy)) | (refine Y1 fun y he hy => ?_; (try with_reducible conv at he => (rhs; whnf)); (try dsimp only at he hy))) | refine F4 (fun h => ?_) fun h => ?_ | refine R1 ?_ | refine Q1 ?_ | fail)); all_goals (conv => whnf))
          refine All'.mk ?_; rintro (e' : Run) he'
          obtain rfl := ld e' he'
          ((repeat' ((conv => whnf) <;> first | exact True.intro | (guard_target =~ Fork _ _ _; first | refine F1 ?_ | refine F2 ?_ | refine F3 (fun h => ?_) fun h => ?_) | (guard_target =~ Ar _ _ _; first | refine A1 ?_ | refine A2 ?_ | refine A3 ?_) | (guard_target =~ AskL _ _; first | refine L1 ?_) | (guard_target =~ Go.Eng.Ask _ _; first | refine K1 ?_) | (guard_target =~ All' _ _; first | (refine Y2 fun y he he' hy => ?_; (try dsimp only at he he' hy)) | (refine Y1 fun y he hy => ?_; (try with_reducible conv at he => (rhs; whnf)); (try dsimp only at he hy))) | refine F4 (fun h => ?_) fun h => ?_ | refine R1 ?_ | refine Q1 ?_ | fail)); all_goals (conv => whnf))
          refine Some'.mk (i + 1 : Nat) ?_
          dsimp only [mergedL]
          rw [hsn]
          ((repeat' ((conv => whnf) <;> first | exact True.intro | (guard_target =~ Fork _ _ _; first | refine F1 ?_ | refine F2 ?_ | refine F3 (fun h => ?_) fun h => ?_) | (guard_target =~ Ar _ _ _; first | refine A1 ?_ | refine A2 ?_ | refine A3 ?_) | (guard_target =~ AskL _ _; first | refine L1 ?_) | (guard_target =~ Go.Eng.Ask _ _; first | refine K1 ?_) | (guard_target =~ All' _ _; first | (refine Y2 fun y he he' hy => ?_; (try dsimp only at he he' hy)) | (refine Y1 fun y he hy => ?_; (try with_reducible conv at he => (rhs; whnf)); (try dsimp only at he hy))) | refine F4 (fun h => ?_) fun h => ?_ | refine R1 ?_ | refine Q1 ?_ | fail)); all_goals (conv => whnf))
        · ((repeat' ((conv => whnf) <;> first | exact True.intro | (guard_target =~ Fork _ _ _; first | refine F1 ?_ | refine F2 ?_ | refine F3 (fun h => ?_) fun h => ?_) | (guard_target =~ Ar _ _ _; first | refine A1 ?_ | refine A2 ?_ | refine A3 ?_) | (guard_target =~ AskL _ _; first | refine L1 ?_) | (guard_target =~ Go.Eng.Ask _ _; first | refine K1 ?_) | (guard_target =~ All' _ _; first | (refine Y2 fun y he he' hy => ?_; (try dsimp only at he he' hy)) | (refine Y1 fun y he hy => ?_; (try with_reducible conv at he => (rhs; whnf)); (try dsimp only at he hy))) | refine F4 (fun h => ?_) fun h => ?_ | refine R1 ?_ | refine Q1 ?_ | fail)); all_goals (conv => whnf))
          refine All'.mk ?_; rintro (e' : Run) he'
          obtain rfl := ld e' he'
          ((repeat' ((conv => whnf) <;> first | exact True.intro | (guard_target =~ Fork _ _ _; first | refine F1 ?_ | refine F2 ?_ | refine F3 (fun h => ?_) fun h => ?_) | (guard_target =~ Ar _ _ _; first | refine A1 ?_ | refine A2 ?_ | refine A3 ?_) | (guard_target =~ AskL _ _; first | refine L1 ?_) | (guard_target =~ Go.Eng.Ask _ _; first | refine K1 ?_) | (guard_target =~ All' _ _; first | (refine Y2 fun y he he' hy => ?_; (try dsimp only at he he' hy)) | (refine Y1 fun y he hy => ?_; (try with_reducible conv at he => (rhs; whnf)); (try dsimp only at he hy))) | refine F4 (fun h => ?_) fun h => ?_ | refine R1 ?_ | refine Q1 ?_ | fail)); all_goals (conv => whnf))
          refine Some'.mk (i + 1 : Nat) ?_
          dsimp only [mergedL]
          rw [hsn]
          ((repeat' ((conv => whnf) <;> first | exact True.intro | (guard_target =~ Fork _ _ _; first | refine F1 ?_ | refine F2 ?_ | refine F3 (fun h => ?_) fun h => ?_) | (guard_target =~ Ar _ _ _; first | refine A1 ?_ | refine A2 ?_ | refine A3 ?_) | (guard_target =~ AskL _ _; first | refine L1 ?_) | (guard_target =~ Go.Eng.Ask _ _; first | refine K1 ?_) | (guard_target =~ All' _ _; first | (refine Y2 fun y he he' hy => ?_; (try dsimp only at he he' hy)) | (refine Y1 fun y he hy => ?_; (try with_reducible conv at he => (rhs; whnf)); (try dsimp only at he hy))) | refine F4 (fun h => ?_) fun h => ?_ | refine R1 ?_ | refine Q1 ?_ | fail)); all_goals (conv => whnf))
end Go.Proofs.YtoaaieiiamdopaaGreatDoor

set_option linter.unusedVariables false
set_option linter.unusedSimpArgs false
set_option maxRecDepth 100000
set_option maxHeartbeats 4000000
namespace Go.Proofs.YtoaaieiiamdopaaGreatDoor
open Go.Eng
variable [DM]
set_option linter.unusedSectionVars false
def joinF (a b : List Run) : List Run := if rightB a && rightB b then joinL a b else []
theorem merged_two {a b : List Run} (ha : Rt a) (hb : ∀ r, r ∈ b → runP r) : mrg [] (sortR [a, b].flatten) = joinL a b := by
  obtain ⟨h1, h2⟩ := sortR_perm [a, b].flatten
  refine mrg_join ha hb (fun r => ?_) h2
  rw [h1.mem_iff]
  simp
theorem add_len : ∀ (l : List Run) (r : Run) (d : Bool), (addF r d l).length ≤ l.length + 1
  | [], r, d => by unfold addF; split <;> simp
  | x :: l, r, d => by
    unfold addF
    split
    · have := add_len l (hull x r) d; simp only [List.length_cons]; omega
    · split
      · rename_i h
        have : ∀ (l : List Run) (r : Run), (addF r true l).length ≤ l.length := fun l => by
          induction l with
          | nil => intro r; exact Nat.le_refl _
          | cons y l ih =>
            intro r
            unfold addF
            split
            · have := ih (hull y r); simp only [List.length_cons]; omega
            · rw [if_neg (by simp)]
              have := ih r; simp only [List.length_cons]; omega
        have := this l r; simp only [List.length_cons]; omega
      · have := add_len l r d; simp only [List.length_cons]; omega
theorem join_len : ∀ (b a : List Run), (joinL a b).length ≤ a.length + b.length
  | [], a => Nat.le_refl _
  | r :: b, a => by
    have h1 := join_len b (addF r false a)
    have h2 := add_len a r false
    show (joinL (addF r false a) b).length ≤ _
    simp only [List.length_cons]; omega
@[reducible] def djoinC : Ctr := {
  X := List Run × List Run
  Y := Unit
  args := fun x => [.ro false runT x.1, .ro false runT x.2]
  rw := fun _ => []
  side := fun x => x.1.length ≤ 400000 ∧ x.2.length ≤ 400000
  val := fun _ => ()
  ens := fun _ _ => True
  res := fun _ _ => .sl 1000
  out := fun x _ => [(1000, .row 57 runT (joinF x.1 x.2))] }
theorem knownG1 : Known Tryz.prog (gOf [(24, drightC), (66, concatCRu), (65, mergedC), (30, dgoodC), (59, equalCRu)]) :=
  known_cons ⟨dright_ok, Tryz.call24⟩ (known_cons ⟨concat_okRu, Tryz.call66⟩ (known_cons ⟨merged_ok, Tryz.call65⟩ (known_cons ⟨dgood_ok, Tryz.call30⟩ (known_cons ⟨equal_okRu, Tryz.call59⟩ (known_nil _)))))
theorem flat_two (a b : List Run) : [a, b].flatten.length = a.length + b.length := by simp
theorem flat_mem2 {a b : List Run} (ha : ∀ r, r ∈ a → runP r) (hb : ∀ r, r ∈ b → runP r) : ∀ r, r ∈ [a, b].flatten → runP r := fun r hr => by
  simp at hr; exact hr.elim (ha r) (hb r)
theorem djoin_ok : djoinC.ok Tryz.prog 25 := by
  refine ok_of_vc (An := fun _ => anOf []) knownG1 mo Tryz.func25 (by kernel_rfl) (by kernel_rfl) (fun _ _ => trivial) (fun x hs => ?_)
  obtain ⟨a, b⟩ := x
  obtain ⟨la, lb⟩ := hs
  have la : a.length ≤ 400000 := la
  have lb : b.length ≤ 400000 := lb
  have hj : joinF a b = if rightB a && rightB b then joinL a b else [] := rfl
  cases h1 : rightB a with
  | false =>
    rw [h1, Bool.false_and, if_neg (by simp)] at hj
    have lm := h1
    ((repeat' ((conv => whnf) <;> first | exact True.intro | (guard_target =~ Fork _ _ _; first | refine F1 ?_ | refine F2 ?_ | refine F3 (fun h => ?_) fun h => ?_) | (guard_target =~ Ar _ _ _; first | refine A1 ?_ | refine A2 ?_ | refine A3 ?_) | (guard_target =~ AskL _ _; first | refine L1 ?_) | (guard_target =~ Go.Eng.Ask _ _; first | refine K1 ?_) | (guard_target =~ All' _ _; first | (refine Y2 fun y he he' hy => ?_; (try dsimp only at he he' hy)) | (refine Y1 fun y he hy => ?_; (try with_reducible conv at he => (rhs; whnf)); (try dsimp only at he hy)) | (refine All'.mk ?_; intro y hy)) | refine F4 (fun h => ?_) fun h => ?_ | refine R1 ?_ | refine Q1 ?_ | fail)); all_goals (conv => whnf))
    refine CallP.mk (C := drightC) a ?_
    exact G1
  | true =>
    cases h2 : rightB b with
    | false =>
      rw [h1, h2, Bool.and_false, if_neg (by simp)] at hj
      have lm := And.intro h1 h2
      ((repeat' ((conv => whnf) <;> first | exact True.intro | (guard_target =~ Fork _ _ _; first | refine F1 ?_ | refine F2 ?_ | refine F3 (fun h => ?_) fun h => ?_) | (guard_target =~ Ar _ _ _; first | refine A1 ?_ | refine A2 ?_ | refine A3 ?_) | (guard_target =~ AskL _ _; first | refine L1 ?_) | (guard_target =~ Go.Eng.Ask _ _; first | refine K1 ?_) | (guard_target =~ All' _ _; first | (refine Y2 fun y he he' hy => ?_; (try dsimp only at he he' hy)) | (refine Y1 fun y he hy => ?_; (try with_reducible conv at he => (rhs; whnf)); (try dsimp only at he hy)) | (refine All'.mk ?_; intro y hy)) | refine F4 (fun h => ?_) fun h => ?_ | refine R1 ?_ | refine Q1 ?_ | fail)); all_goals (conv => whnf))
      refine CallP.mk (C := drightC) a ?_
      ((repeat' ((conv => whnf) <;> first | exact True.intro | (guard_target =~ Fork _ _ _; first | refine F1 ?_ | refine F2 ?_ | refine F3 (fun h => ?_) fun h => ?_) | (guard_target =~ Ar _ _ _; first | refine A1 ?_ | refine A2 ?_ | refine A3 ?_) | (guard_target =~ AskL _ _; first | refine L1 ?_) | (guard_target =~ Go.Eng.Ask _ _; first | refine K1 ?_) | (guard_target =~ All' _ _; first | (refine Y2 fun y he he' hy => ?_; (try dsimp only at he he' hy)) | (refine Y1 fun y he hy => ?_; (try with_reducible conv at he => (rhs; whnf)); (try dsimp only at he hy)) | (refine All'.mk ?_; intro y hy)) | refine F4 (fun h => ?_) fun h => ?_ | refine R1 ?_ | refine Q1 ?_ | fail)); all_goals (conv => whnf))
      refine CallP.mk (C := drightC) b ?_
      exact G1
    | true =>
      rw [h1, h2, Bool.and_true, if_pos rfl] at hj
      have lm := And.intro h1 h2
      have ra := right_iff.1 h1
      have rb := right_iff.1 h2
      have hf := flat_two a b
      have hm := merged_two ra rb.all
      have hall := flat_mem2 ra.all rb.all
      ((repeat' ((conv => whnf) <;> first | exact True.intro | (guard_target =~ Fork _ _ _; first | refine F1 ?_ | refine F2 ?_ | refine F3 (fun h => ?_) fun h => ?_) | (guard_target =~ Ar _ _ _; first | refine A1 ?_ | refine A2 ?_ | refine A3 ?_) | (guard_target =~ AskL _ _; first | refine L1 ?_) | (guard_target =~ Go.Eng.Ask _ _; first | refine K1 ?_) | (guard_target =~ All' _ _; first | (refine Y2 fun y he he' hy => ?_; (try dsimp only at he he' hy)) | (refine Y1 fun y he hy => ?_; (try with_reducible conv at he => (rhs; whnf)); (try dsimp only at he hy)) | (refine All'.mk ?_; intro y hy)) | refine F4 (fun h => ?_) fun h => ?_ | refine R1 ?_ | refine Q1 ?_ | fail)); all_goals (conv => whnf))
      refine CallP.mk (C := drightC) a ?_
      ((repeat' ((conv => whnf) <;> first | exact True.intro | (guard_target =~ Fork _ _ _; first | refine F1 ?_ | refine F2 ?_ | refine F3 (fun h => ?_) fun h => ?_) | (guard_target =~ Ar _ _ _; first | refine A1 ?_ | refine A2 ?_ | refine A3 ?_) | (guard_target =~ AskL _ _; first | refine L1 ?_) | (guard_target =~ Go.Eng.Ask _ _; first | refine K1 ?_) | (guard_target =~ All' _ _; first | (refine Y2 fun y he he' hy => ?_; (try dsimp only at he he' hy)) | (refine Y1 fun y he hy => ?_; (try with_reducible conv at he => (rhs; whnf)); (try dsimp only at he hy)) | (refine All'.mk ?_; intro y hy)) | refine F4 (fun h => ?_) fun h => ?_ | refine R1 ?_ | refine Q1 ?_ | fail)); all_goals (conv => whnf))
      refine CallP.mk (C := drightC) b ?_
      ((repeat' ((conv => whnf) <;> first | exact True.intro | (guard_target =~ Fork _ _ _; first | refine F1 ?_ | refine F2 ?_ | refine F3 (fun h => ?_) fun h => ?_) | (guard_target =~ Ar _ _ _; first | refine A1 ?_ | refine A2 ?_ | refine A3 ?_) | (guard_target =~ AskL _ _; first | refine L1 ?_) | (guard_target =~ Go.Eng.Ask _ _; first | refine K1 ?_) | (guard_target =~ All' _ _; first | (refine Y2 fun y he he' hy => ?_; (try dsimp only at he he' hy)) | (refine Y1 fun y he hy => ?_; (try with_reducible conv at he => (rhs; whnf)); (try dsimp only at he hy)) | (refine All'.mk ?_; intro y hy)) | refine F4 (fun h => ?_) fun h => ?_ | refine R1 ?_ | refine Q1 ?_ | fail)); all_goals (conv => whnf))
      refine CallP.mk (C := concatCRu) [a, b] ?_
      ((repeat' ((conv => whnf) <;> first | exact True.intro | (guard_target =~ Fork _ _ _; first | refine F1 ?_ | refine F2 ?_ | refine F3 (fun h => ?_) fun h => ?_) | (guard_target =~ Ar _ _ _; first | refine A1 ?_ | refine A2 ?_ | refine A3 ?_) | (guard_target =~ Go.Eng.Ask _ _; first | refine K1 ?_) | (guard_target =~ All' _ _; first | (refine Y2 fun y he he' hy => ?_; (try dsimp only at he he' hy)) | (refine Y1 fun y he hy => ?_; (try with_reducible conv at he => (rhs; whnf)); (try dsimp only at he hy)) | (refine All'.mk ?_; intro y hy)) | refine F4 (fun h => ?_) fun h => ?_ | refine R1 ?_ | refine Q1 ?_ | fail)); all_goals (conv => whnf))
      refine AskL.mk ?_ ?_
      · (dsimp only [conj]; repeat' apply And.intro) <;> rfl
      refine Ask.mk ⟨by show [a, b].flatten.length ≤ _; omega, by show 2 ≤ _; omega⟩ ?_
      ((repeat' ((conv => whnf) <;> first | exact True.intro | (guard_target =~ Fork _ _ _; first | refine F1 ?_ | refine F2 ?_ | refine F3 (fun h => ?_) fun h => ?_) | (guard_target =~ Ar _ _ _; first | refine A1 ?_ | refine A2 ?_ | refine A3 ?_) | (guard_target =~ Go.Eng.Ask _ _; first | refine K1 ?_) | (guard_target =~ All' _ _; first | (refine Y2 fun y he he' hy => ?_; (try dsimp only at he he' hy)) | (refine Y1 fun y he hy => ?_; (try with_reducible conv at he => (rhs; whnf)); (try dsimp only at he hy)) | (refine All'.mk ?_; intro y hy)) | refine F4 (fun h => ?_) fun h => ?_ | refine R1 ?_ | refine Q1 ?_ | fail)); all_goals (conv => whnf))
      refine CallP.mk (C := mergedC) [a, b].flatten ?_
      ((repeat' ((conv => whnf) <;> first | exact True.intro | (guard_target =~ Fork _ _ _; first | refine F1 ?_ | refine F2 ?_ | refine F3 (fun h => ?_) fun h => ?_) | (guard_target =~ Ar _ _ _; first | refine A1 ?_ | refine A2 ?_ | refine A3 ?_) | (guard_target =~ Go.Eng.Ask _ _; first | refine K1 ?_) | (guard_target =~ All' _ _; first | (refine Y2 fun y he he' hy => ?_; (try dsimp only at he he' hy)) | (refine Y1 fun y he hy => ?_; (try with_reducible conv at he => (rhs; whnf)); (try dsimp only at he hy)) | (refine All'.mk ?_; intro y hy)) | refine F4 (fun h => ?_) fun h => ?_ | refine R1 ?_ | refine Q1 ?_ | fail)); all_goals (conv => whnf))
      refine AskL.mk ?_ ?_
      · (dsimp only [conj]; repeat' apply And.intro) <;> rfl
      refine Ask.mk ⟨hall, by show [a, b].flatten.length ≤ _; omega⟩ ?_
      ((repeat' ((conv => whnf) <;> first | exact True.intro | (guard_target =~ Fork _ _ _; first | refine F1 ?_ | refine F2 ?_ | refine F3 (fun h => ?_) fun h => ?_) | (guard_target =~ Ar _ _ _; first | refine A1 ?_ | refine A2 ?_ | refine A3 ?_) | (guard_target =~ Go.Eng.Ask _ _; first | refine K1 ?_) | (guard_target =~ All' _ _; first | (refine Y2 fun y he he' hy => ?_; (try dsimp only at he he' hy)) | (refine Y1 fun y he hy => ?_; (try with_reducible conv at he => (rhs; whnf)); (try dsimp only at he hy)) | (refine All'.mk ?_; intro y hy)) | refine F4 (fun h => ?_) fun h => ?_ | refine R1 ?_ | refine Q1 ?_ | fail)); all_goals (conv => whnf))
      refine AskL.mk ?_ trivial
      dsimp only [conj]
      rw [hm, hj]
def cmpF (a b : List Run) : Int := if rightB a && rightB b then (if belowB a b then (if belowB b a then 0 else -1) else (if belowB b a then 1 else 2)) else 2
@[reducible] def dcmpC : Ctr := {
  X := List Run × List Run
  Y := Unit
  args := fun x => [.ro false runT x.1, .ro false runT x.2]
  rw := fun _ => []
  side := fun x => x.1.length ≤ 400000 ∧ x.2.length ≤ 400000
  val := fun _ => ()
  ens := fun _ _ => True
  res := fun x _ => .v (.int .i64 (cmpF x.1 x.2))
  out := fun _ _ => [] }
theorem dcmp_ok : dcmpC.ok Tryz.prog 41 := by
  refine ok_of_vc (An := fun _ => anOf []) knownG1 mo Tryz.func41 (by kernel_rfl) (by kernel_rfl) (fun _ _ => trivial) (fun x hs => ?_)
  obtain ⟨a, b⟩ := x
  obtain ⟨la, lb⟩ := hs
  have la : a.length ≤ 400000 := la
  have lb : b.length ≤ 400000 := lb
  have hj : cmpF a b = if rightB a && rightB b then (if belowB a b then (if belowB b a then 0 else -1) else (if belowB b a then 1 else 2)) else 2 := rfl
  cases h1 : rightB a with
  | false =>
    rw [h1, Bool.false_and, if_neg (by simp)] at hj
    have lm := h1
    ((repeat' ((conv => whnf) <;> first | exact True.intro | (guard_target =~ Fork _ _ _; first | refine F1 ?_ | refine F2 ?_ | refine F3 (fun h => ?_) fun h => ?_) | (guard_target =~ Ar _ _ _; first | refine A1 ?_ | refine A2 ?_ | refine A3 ?_) | (guard_target =~ AskL _ _; first | refine L1 ?_) | (guard_target =~ Go.Eng.Ask _ _; first | refine K1 ?_) | (guard_target =~ All' _ _; first | (refine Y2 fun y he he' hy => ?_; (try dsimp only at he he' hy)) | (refine Y1 fun y he hy => ?_; (try with_reducible conv at he => (rhs; whnf)); (try dsimp only at he hy)) | (refine All'.mk ?_; intro y hy)) | refine F4 (fun h => ?_) fun h => ?_ | refine R1 ?_ | refine Q1 ?_ | fail)); all_goals (conv => whnf))
    refine CallP.mk (C := drightC) a ?_
    exact G1
  | true =>
    cases h2 : rightB b with
    | false =>
      rw [h1, h2, Bool.and_false, if_neg (by simp)] at hj
      have lm := And.intro h1 h2
      ((repeat' ((conv => whnf) <;> first | exact True.intro | (guard_target =~ Fork _ _ _; first | refine F1 ?_ | refine F2 ?_ | refine F3 (fun h => ?_) fun h => ?_) | (guard_target =~ Ar _ _ _; first | refine A1 ?_ | refine A2 ?_ | refine A3 ?_) | (guard_target =~ AskL _ _; first | refine L1 ?_) | (guard_target =~ Go.Eng.Ask _ _; first | refine K1 ?_) | (guard_target =~ All' _ _; first | (refine Y2 fun y he he' hy => ?_; (try dsimp only at he he' hy)) | (refine Y1 fun y he hy => ?_; (try with_reducible conv at he => (rhs; whnf)); (try dsimp only at he hy)) | (refine All'.mk ?_; intro y hy)) | refine F4 (fun h => ?_) fun h => ?_ | refine R1 ?_ | refine Q1 ?_ | fail)); all_goals (conv => whnf))
      refine CallP.mk (C := drightC) a ?_
      ((repeat' ((conv => whnf) <;> first | exact True.intro | (guard_target =~ Fork _ _ _; first | refine F1 ?_ | refine F2 ?_ | refine F3 (fun h => ?_) fun h => ?_) | (guard_target =~ Ar _ _ _; first | refine A1 ?_ | refine A2 ?_ | refine A3 ?_) | (guard_target =~ AskL _ _; first | refine L1 ?_) | (guard_target =~ Go.Eng.Ask _ _; first | refine K1 ?_) | (guard_target =~ All' _ _; first | (refine Y2 fun y he he' hy => ?_; (try dsimp only at he he' hy)) | (refine Y1 fun y he hy => ?_; (try with_reducible conv at he => (rhs; whnf)); (try dsimp only at he hy)) | (refine All'.mk ?_; intro y hy)) | refine F4 (fun h => ?_) fun h => ?_ | refine R1 ?_ | refine Q1 ?_ | fail)); all_goals (conv => whnf))
      refine CallP.mk (C := drightC) b ?_
      exact G1
    | true =>
      rw [h1, h2, Bool.and_true, if_pos rfl] at hj
      have ra := right_iff.1 h1
      have rb := right_iff.1 h2
      have hf := flat_two a b
      have hm := merged_two ra rb.all
      have hall := flat_mem2 ra.all rb.all
      have hjl : (mrg [] (sortR [a, b].flatten)).length ≤ a.length + b.length := by rw [hm]; exact join_len b a
      have k1 : decide (mrg [] (sortR [a, b].flatten) = a) = belowB b a := by
        rw [hm]
        have := join_self ra rb
        cases h : belowB b a with
        | true => exact decide_eq_true (this.2 h)
        | false => exact decide_eq_false (fun e => by rw [this.1 e] at h; cases h)
      have k2 : decide (mrg [] (sortR [a, b].flatten) = b) = belowB a b := by
        rw [hm]
        have := join_other ra rb
        cases h : belowB a b with
        | true => exact decide_eq_true (this.2 h)
        | false => exact decide_eq_false (fun e => by rw [this.1 e] at h; cases h)
      cases h3 : belowB a b <;> cases h4 : belowB b a
      all_goals
        rw [h3, h4] at hj
        simp only [if_true, if_false, Bool.false_eq_true] at hj
        rw [h4] at k1
        rw [h3] at k2
        have lm := And.intro h1 (And.intro h2 (And.intro k1 k2))
        ((repeat' ((conv => whnf) <;> first | exact True.intro | (guard_target =~ Fork _ _ _; first | refine F1 ?_ | refine F2 ?_ | refine F3 (fun h => ?_) fun h => ?_) | (guard_target =~ Ar _ _ _; first | refine A1 ?_ | refine A2 ?_ | refine A3 ?_) | (guard_target =~ AskL _ _; first | refine L1 ?_) | (guard_target =~ Go.Eng.Ask _ _; first | refine K1 ?_) | (guard_target =~ All' _ _; first | (refine Y2 fun y he he' hy => ?_; (try dsimp only at he he' hy)) | (refine Y1 fun y he hy => ?_; (try with_reducible conv at he => (rhs; whnf)); (try dsimp only at he hy)) | (refine All'.mk ?_; intro y hy)) | refine F4 (fun h => ?_) fun h => ?_ | refine R1 ?_ | refine Q1 ?_ | fail)); all_goals (conv => whnf))
        refine CallP.mk (C := drightC) a ?_
        ((repeat' ((conv => whnf) <;> first | exact True.intro | (guard_target =~ Fork _ _ _; first | refine F1 ?_ | refine F2 ?_ | refine F3 (fun h => ?_) fun h => ?_) | (guard_target =~ Ar _ _ _; first | refine A1 ?_ | refine A2 ?_ | refine A3 ?_) | (guard_target =~ AskL _ _; first | refine L1 ?_) | (guard_target =~ Go.Eng.Ask _ _; first | refine K1 ?_) | (guard_target =~ All' _ _; first | (refine Y2 fun y he he' hy => ?_; (try dsimp only at he he' hy)) | (refine Y1 fun y he hy => ?_; (try with_reducible conv at he => (rhs; whnf)); (try dsimp only at he hy)) | (refine All'.mk ?_; intro y hy)) | refine F4 (fun h => ?_) fun h => ?_ | refine R1 ?_ | refine Q1 ?_ | fail)); all_goals (conv => whnf))
        refine CallP.mk (C := drightC) b ?_
        ((repeat' ((conv => whnf) <;> first | exact True.intro | (guard_target =~ Fork _ _ _; first | refine F1 ?_ | refine F2 ?_ | refine F3 (fun h => ?_) fun h => ?_) | (guard_target =~ Ar _ _ _; first | refine A1 ?_ | refine A2 ?_ | refine A3 ?_) | (guard_target =~ AskL _ _; first | refine L1 ?_) | (guard_target =~ Go.Eng.Ask _ _; first | refine K1 ?_) | (guard_target =~ All' _ _; first | (refine Y2 fun y he he' hy => ?_; (try dsimp only at he he' hy)) | (refine Y1 fun y he hy => ?_; (try with_reducible conv at he => (rhs; whnf)); (try dsimp only at he hy)) | (refine All'.mk ?_; intro y hy)) | refine F4 (fun h => ?_) fun h => ?_ | refine R1 ?_ | refine Q1 ?_ | fail)); all_goals (conv => whnf))
        refine CallP.mk (C := concatCRu) [a, b] ?_
        ((repeat' ((conv => whnf) <;> first | exact True.intro | (guard_target =~ Fork _ _ _; first | refine F1 ?_ | refine F2 ?_ | refine F3 (fun h => ?_) fun h => ?_) | (guard_target =~ Ar _ _ _; first | refine A1 ?_ | refine A2 ?_ | refine A3 ?_) | (guard_target =~ Go.Eng.Ask _ _; first | refine K1 ?_) | (guard_target =~ All' _ _; first | (refine Y2 fun y he he' hy => ?_; (try dsimp only at he he' hy)) | (refine Y1 fun y he hy => ?_; (try with_reducible conv at he => (rhs; whnf)); (try dsimp only at he hy)) | (refine All'.mk ?_; intro y hy)) | refine F4 (fun h => ?_) fun h => ?_ | refine R1 ?_ | refine Q1 ?_ | fail)); all_goals (conv => whnf))
        refine AskL.mk ?_ ?_
        · (dsimp only [conj]; repeat' apply And.intro) <;> rfl
        refine Ask.mk ⟨by show [a, b].flatten.length ≤ _; omega, by show 2 ≤ _; omega⟩ ?_
        ((repeat' ((conv => whnf) <;> first | exact True.intro | (guard_target =~ Fork _ _ _; first | refine F1 ?_ | refine F2 ?_ | refine F3 (fun h => ?_) fun h => ?_) | (guard_target =~ Ar _ _ _; first | refine A1 ?_ | refine A2 ?_ | refine A3 ?_) | (guard_target =~ Go.Eng.Ask _ _; first | refine K1 ?_) | (guard_target =~ All' _ _; first | (refine Y2 fun y he he' hy => ?_; (try dsimp only at he he' hy)) | (refine Y1 fun y he hy => ?_; (try with_reducible conv at he => (rhs; whnf)); (try dsimp only at he hy)) | (refine All'.mk ?_; intro y hy)) | refine F4 (fun h => ?_) fun h => ?_ | refine R1 ?_ | refine Q1 ?_ | fail)); all_goals (conv => whnf))
        refine CallP.mk (C := mergedC) [a, b].flatten ?_
        ((repeat' ((conv => whnf) <;> first | exact True.intro | (guard_target =~ Fork _ _ _; first | refine F1 ?_ | refine F2 ?_ | refine F3 (fun h => ?_) fun h => ?_) | (guard_target =~ Ar _ _ _; first | refine A1 ?_ | refine A2 ?_ | refine A3 ?_) | (guard_target =~ Go.Eng.Ask _ _; first | refine K1 ?_) | (guard_target =~ All' _ _; first | (refine Y2 fun y he he' hy => ?_; (try dsimp only at he he' hy)) | (refine Y1 fun y he hy => ?_; (try with_reducible conv at he => (rhs; whnf)); (try dsimp only at he hy)) | (refine All'.mk ?_; intro y hy)) | refine F4 (fun h => ?_) fun h => ?_ | refine R1 ?_ | refine Q1 ?_ | fail)); all_goals (conv => whnf))
        refine AskL.mk ?_ ?_
        · (dsimp only [conj]; repeat' apply And.intro) <;> rfl
        refine Ask.mk ⟨hall, by show [a, b].flatten.length ≤ _; omega⟩ ?_
        ((repeat' ((conv => whnf) <;> first | exact True.intro | (guard_target =~ Fork _ _ _; first | refine F1 ?_ | refine F2 ?_ | refine F3 (fun h => ?_) fun h => ?_) | (guard_target =~ Ar _ _ _; first | refine A1 ?_ | refine A2 ?_ | refine A3 ?_) | (guard_target =~ AskL _ _; first | refine L1 ?_) | (guard_target =~ Go.Eng.Ask _ _; first | refine K1 ?_) | (guard_target =~ All' _ _; first | (refine Y2 fun y he he' hy => ?_; (try dsimp only at he he' hy)) | (refine Y1 fun y he hy => ?_; (try with_reducible conv at he => (rhs; whnf)); (try dsimp only at he hy)) | (refine All'.mk ?_; intro y hy)) | refine F4 (fun h => ?_) fun h => ?_ | refine R1 ?_ | refine Q1 ?_ | fail)); all_goals (conv => whnf))
        refine CallP.mk (C := equalCRu) (mrg [] (sortR [a, b].flatten), a) ?_
        ((repeat' ((conv => whnf) <;> first | exact True.intro | (guard_target =~ Fork _ _ _; first | refine F1 ?_ | refine F2 ?_ | refine F3 (fun h => ?_) fun h => ?_) | (guard_target =~ Ar _ _ _; first | refine A1 ?_ | refine A2 ?_ | refine A3 ?_) | (guard_target =~ AskL _ _; first | refine L1 ?_) | (guard_target =~ Go.Eng.Ask _ _; first | refine K1 ?_) | (guard_target =~ All' _ _; first | (refine Y2 fun y he he' hy => ?_; (try dsimp only at he he' hy)) | (refine Y1 fun y he hy => ?_; (try with_reducible conv at he => (rhs; whnf)); (try dsimp only at he hy)) | (refine All'.mk ?_; intro y hy)) | refine F4 (fun h => ?_) fun h => ?_ | refine R1 ?_ | refine Q1 ?_ | fail)); all_goals (conv => whnf))
        refine CallP.mk (C := equalCRu) (mrg [] (sortR [a, b].flatten), b) ?_
        ((repeat' ((conv => whnf) <;> first | exact True.intro | (guard_target =~ Fork _ _ _; first | refine F1 ?_ | refine F2 ?_ | refine F3 (fun h => ?_) fun h => ?_) | (guard_target =~ Ar _ _ _; first | refine A1 ?_ | refine A2 ?_ | refine A3 ?_) | (guard_target =~ AskL _ _; first | refine L1 ?_) | (guard_target =~ Go.Eng.Ask _ _; first | refine K1 ?_) | (guard_target =~ All' _ _; first | (refine Y2 fun y he he' hy => ?_; (try dsimp only at he he' hy)) | (refine Y1 fun y he hy => ?_; (try with_reducible conv at he => (rhs; whnf)); (try dsimp only at he hy)) | (refine All'.mk ?_; intro y hy)) | refine F4 (fun h => ?_) fun h => ?_ | refine R1 ?_ | refine Q1 ?_ | fail)); all_goals (conv => whnf))
end Go.Proofs.YtoaaieiiamdopaaGreatDoor

set_option linter.unusedVariables false
set_option linter.unusedSimpArgs false
set_option maxRecDepth 100000
set_option maxHeartbeats 4000000
namespace Go.Proofs.YtoaaieiiamdopaaGreatDoor
open Go.Eng
variable [DM]
set_option linter.unusedSectionVars false
end Go.Proofs.YtoaaieiiamdopaaGreatDoor

set_option linter.unusedVariables false
set_option linter.unusedSimpArgs false
set_option maxRecDepth 100000
set_option maxHeartbeats 4000000
namespace Go.Proofs.YtoaaieiiamdopaaGreatDoor
open Go.Eng
variable [DM]
set_option linter.unusedSectionVars false
end Go.Proofs.YtoaaieiiamdopaaGreatDoor

set_option linter.unusedVariables false
set_option linter.unusedSimpArgs false
set_option maxRecDepth 100000
set_option maxHeartbeats 4000000
namespace Go.Proofs.YtoaaieiiamdopaaGreatDoor
open Go.Eng
variable [DM]
set_option linter.unusedSectionVars false
theorem knownJ0 : Known Tryz.prog (gOf [(59, equalCRu)]) := known_cons ⟨equal_okRu, Tryz.call59⟩ (known_nil _)
theorem dsame_ok : equalCRu.ok Tryz.prog 19 := by
  refine ok_of_vc (An := fun _ => anOf []) knownJ0 mo Tryz.func19 (by kernel_rfl) (by kernel_rfl) (fun _ _ => trivial) (fun x hs => ?_)
  obtain ⟨a, b⟩ := x
  have hs : a.length ≤ 9223372036854775807 := hs
  ((repeat' ((conv => whnf) <;> first | exact True.intro | (guard_target =~ Fork _ _ _; first | refine F1 ?_ | refine F2 ?_ | refine F3 (fun h => ?_) fun h => ?_) | (guard_target =~ Ar _ _ _; first | refine A1 ?_ | refine A2 ?_ | refine A3 ?_) | (guard_target =~ AskL _ _; first | refine L1 ?_) | (guard_target =~ Go.Eng.Ask _ _; first | refine K1 ?_) | (guard_target =~ All' _ _; first | (refine Y2 fun y he he' hy => ?_; (try dsimp only at he he' hy)) | (refine Y1 fun y he hy => ?_; (try with_reducible conv at he => (rhs; whnf)); (try dsimp only at he hy)) | (refine All'.mk ?_; intro y hy)) | refine F4 (fun h => ?_) fun h => ?_ | refine R1 ?_ | refine Q1 ?_ | fail)); all_goals (conv => whnf))
  refine CallP.mk (C := equalCRu) (a, b) ?_
  exact G1
def cntL : List Run → Int
  | [] => 0
  | r :: l => (r.2.2 - r.2.1 + 1) + cntL l
theorem cntL_snoc (r : Run) : ∀ l : List Run, cntL (l ++ [r]) = cntL l + (r.2.2 - r.2.1 + 1)
  | [] => by simp [cntL]
  | x :: l => by simp only [List.cons_append, cntL, cntL_snoc r l]; omega
theorem cntL_rng : ∀ l : List Run, (∀ r, r ∈ l → runP r) → 0 ≤ cntL l ∧ cntL l ≤ 1099511627776 * l.length
  | [], _ => by simp [cntL]
  | r :: l, h => by
    have h1 := h r (List.mem_cons_self ..)
    have h2 := cntL_rng l (fun x hx => h x (List.mem_cons_of_mem _ hx))
    unfold runP at h1
    simp only [cntL, List.length_cons]
    omega
def cntN (c : List Run) : Int := if rightB c then cntL c else 0
@[reducible] def dcountC : Ctr := {
  X := List Run
  Y := Unit
  args := fun c => [.ro true runT c]
  rw := fun _ => []
  side := fun c => c.length ≤ 400000
  val := fun _ => ()
  ens := fun _ _ => True
  res := fun c _ => .v (.int .i64 (cntN c))
  out := fun _ _ => [] }
@[reducible] def dcountL (c : List Run) : LA := {
  X := Nat
  pre := fun i => i ≤ c.length
  mu := fun i => c.length - i
  T := fun i => [(3, .v (.int .i64 (cntL (c.take i)))), (10, .ro true runT c), (11, .v (.int .i64 c.length)), (12, .v (.int .i64 (i : Nat)))]
  M := fun _ => [] }
theorem knownJ2 : Known Tryz.prog (gOf [(24, drightC)]) := known_cons ⟨dright_ok, Tryz.call24⟩ (known_nil _)
theorem dcount_ok : dcountC.ok Tryz.prog 43 := by
  refine ok_of_vc (An := fun (c : List Run) => anOf [(0, .loop (dcountL c))]) knownJ2 mo Tryz.func43 (by kernel_rfl) (by kernel_rfl) (fun _ _ => trivial) (fun (c : List Run) hs => ?_)
  have hs : c.length ≤ 400000 := hs
  have hj : cntN c = if rightB c then cntL c else 0 := rfl
  cases h1 : rightB c with
  | false =>
    rw [h1, if_neg (by simp)] at hj
    have lm := h1
    ((repeat' ((conv => whnf) <;> first | exact True.intro | (guard_target =~ Fork _ _ _; first | refine F1 ?_ | refine F2 ?_ | refine F3 (fun h => ?_) fun h => ?_) | (guard_target =~ Ar _ _ _; first | refine A1 ?_ | refine A2 ?_ | refine A3 ?_) | (guard_target =~ AskL _ _; first | refine L1 ?_) | (guard_target =~ Go.Eng.Ask _ _; first | refine K1 ?_) | (guard_target =~ All' _ _; first | (refine Y2 fun y he he' hy => ?_; (try dsimp only at he he' hy)) | (refine Y1 fun y he hy => ?_; (try with_reducible conv at he => (rhs; whnf)); (try dsimp only at he hy)) | (refine All'.mk ?_; intro y hy)) | refine F4 (fun h => ?_) fun h => ?_ | refine R1 ?_ | refine Q1 ?_ | fail)); all_goals (conv => whnf))
    refine CallP.mk (C := drightC) c ?_
    exact G1
  | true =>
    rw [h1, if_pos rfl] at hj
    have lm := h1
    have rc := right_iff.1 h1
    have h0 : cntL (c.take 0) = 0 := rfl
    ((repeat' ((conv => whnf) <;> first | exact True.intro | (guard_target =~ Fork _ _ _; first | refine F1 ?_ | refine F2 ?_ | refine F3 (fun h => ?_) fun h => ?_) | (guard_target =~ Ar _ _ _; first | refine A1 ?_ | refine A2 ?_ | refine A3 ?_) | (guard_target =~ AskL _ _; first | refine L1 ?_) | (guard_target =~ Go.Eng.Ask _ _; first | refine K1 ?_) | (guard_target =~ All' _ _; first | (refine Y2 fun y he he' hy => ?_; (try dsimp only at he he' hy)) | (refine Y1 fun y he hy => ?_; (try with_reducible conv at he => (rhs; whnf)); (try dsimp only at he hy)) | (refine All'.mk ?_; intro y hy)) | refine F4 (fun h => ?_) fun h => ?_ | refine R1 ?_ | refine Q1 ?_ | fail)); all_goals (conv => whnf))
    refine CallP.mk (C := drightC) c ?_
    ((repeat' ((conv => whnf) <;> first | exact True.intro | (guard_target =~ Fork _ _ _; first | refine F1 ?_ | refine F2 ?_ | refine F3 (fun h => ?_) fun h => ?_) | (guard_target =~ Ar _ _ _; first | refine A1 ?_ | refine A2 ?_ | refine A3 ?_) | (guard_target =~ AskL _ _; first | refine L1 ?_) | (guard_target =~ Go.Eng.Ask _ _; first | refine K1 ?_) | (guard_target =~ All' _ _; first | (refine Y2 fun y he he' hy => ?_; (try dsimp only at he he' hy)) | (refine Y1 fun y he hy => ?_; (try with_reducible conv at he => (rhs; whnf)); (try dsimp only at he hy)) | (refine All'.mk ?_; intro y hy)) | refine F4 (fun h => ?_) fun h => ?_ | refine R1 ?_ | refine Q1 ?_ | fail)); all_goals (conv => whnf))
    refine Some'.mk (0 : Nat) ?_
    dsimp only [dcountL]
    rw [h0]
    ((repeat' ((conv => whnf) <;> first | exact True.intro | (guard_target =~ Fork _ _ _; first | refine F1 ?_ | refine F2 ?_ | refine F3 (fun h => ?_) fun h => ?_) | (guard_target =~ Ar _ _ _; first | refine A1 ?_ | refine A2 ?_ | refine A3 ?_) | (guard_target =~ AskL _ _; first | refine L1 ?_) | (guard_target =~ Go.Eng.Ask _ _; first | refine K1 ?_) | (guard_target =~ All' _ _; first | (refine Y2 fun y he he' hy => ?_; (try dsimp only at he he' hy)) | (refine Y1 fun y he hy => ?_; (try with_reducible conv at he => (rhs; whnf)); (try dsimp only at he hy)) | (refine All'.mk ?_; intro y hy)) | refine F4 (fun h => ?_) fun h => ?_ | refine R1 ?_ | refine Q1 ?_ | fail)); all_goals (conv => whnf))
    refine AllI.mk ?_
    rintro (i : Nat) hi
    have hi : i ≤ c.length := hi
    by_cases hil : i = c.length
    · subst hil
      try dsimp only [dcountL]
      rw [List.take_length]
      exact G1
    · obtain ⟨⟨n, f, t⟩, he⟩ : ∃ e, c[i]? = some e := ⟨_, List.getElem?_eq_getElem (by omega)⟩
      obtain ⟨b1, b2, b3, b4, b5⟩ : runP (n, f, t) := rc.all _ (List.mem_of_getElem? he)
      dsimp only at b1 b2 b3 b4 b5
      have hrng := cntL_rng (c.take i) (fun r hr => rc.all r (List.mem_of_mem_take hr))
      rw [List.length_take] at hrng
      have hsn : cntL (c.take (i + 1)) = cntL (c.take i) + (t - f + 1) := by rw [take_sn he, cntL_snoc]
      ((repeat' ((conv => whnf) <;> first | exact True.intro | (guard_target =~ Fork _ _ _; first | refine F1 ?_ | refine F2 ?_ | refine F3 (fun h => ?_) fun h => ?_) | (guard_target =~ Ar _ _ _; first | refine A1 ?_ | refine A2 ?_ | refine A3 ?_) | (guard_target =~ AskL _ _; first | refine L1 ?_) | (guard_target =~ Go.Eng.Ask _ _; first | refine K1 ?_) | (guard_target =~ All' _ _; first | (refine Y2 fun y he he' hy => ?_; (try dsimp only at he he' hy)) | (refine Y1 fun y he hy => ?_; (try with_reducible conv at he => (rhs; whnf)); (try dsimp only at he hy))) | refine F4 (fun h => ?_) fun h => ?_ | refine R1 ?_ | refine Q1 ?_ | fail)); all_goals (conv => whnf))
      refine All'.mk ?_; rintro (e' : Run) he'
      obtain rfl : (n, f, t) = e' := Option.some.inj (he.symm.trans he')
      clear he'
      ((repeat' ((conv => whnf) <;> first | exact True.intro | (guard_target =~ Fork _ _ _; first | refine F1 ?_ | refine F2 ?_ | refine F3 (fun h => ?_) fun h => ?_) | (guard_target =~ Ar _ _ _; first | refine A1 ?_ | refine A2 ?_ | refine A3 ?_) | (guard_target =~ AskL _ _; first | refine L1 ?_) | (guard_target =~ Go.Eng.Ask _ _; first | refine K1 ?_) | (guard_target =~ All' _ _; first | (refine Y2 fun y he he' hy => ?_; (try dsimp only at he he' hy)) | (refine Y1 fun y he hy => ?_; (try with_reducible conv at he => (rhs; whnf)); (try dsimp only at he hy)) | (refine All'.mk ?_; intro y hy)) | refine F4 (fun h => ?_) fun h => ?_ | refine R1 ?_ | refine Q1 ?_ | fail)); all_goals (conv => whnf))
      refine Some'.mk (i + 1 : Nat) ?_
      try dsimp only [dcountL]
      rw [hsn]
      exact G1
end Go.Proofs.YtoaaieiiamdopaaGreatDoor

set_option linter.unusedVariables false
set_option linter.unusedSimpArgs false
set_option maxRecDepth 100000
namespace Go.Proofs.YtoaaieiiamdopaaGreatDoor
open Go.Eng
end Go.Proofs.YtoaaieiiamdopaaGreatDoor

set_option linter.unusedVariables false
set_option linter.unusedSimpArgs false
set_option linter.unusedSectionVars false
namespace Go.Proofs.YtoaaieiiamdopaaGreatDoor
open Go.Eng
variable [DM]
theorem row_ro {E : Env} {w : World} {fp : Nat → Prop} {id : Nat} {te : TypeId} {t : Ty} {xs : List t.den} {s : Slot} {E' : Env} (hle : E.le E')
    (h : EntSat E w fp id (.row te t xs)) (hs : E.slot id = some s) (hI : ∀ b, fp b → E'.I b) : Sat E' w (.ro false t xs) s.val := by
  obtain ⟨s', h1, h2⟩ := h
  obtain rfl : s' = s := Option.some.inj (h1.symm.trans hs)
  rcases h2 with ⟨h2, rfl, -⟩ | ⟨o, c, arr, fz, g1, g2, g3, g4, g5, g6, g7⟩
  · rw [h2]; exact .nil _ _ _ _
  · rw [g1]
    have hin : ∀ m, m < xs.length * t.size → o + m < arr.size := fun m hm => by
      have : xs.length * t.size ≤ c * t.size := Nat.mul_le_mul_right _ g5
      omega
    refine .ro false t xs s'.blk o c (fun m => arr.getD (o + m) undef) (.inl (hI _ ((g2 _).2 rfl))) g5 (fun m hm => ?_) (fun i x j sv hi hj => ?_)
    · have := hin m hm
      simp [World.cell?, g3, Array.getD, this]
    · obtain ⟨u, hu, hsat⟩ := g7 i x j sv hi hj
      have e : o + (i * t.size + j) = o + i * t.size + j := by omega
      have h9 : arr.getD (o + (i * t.size + j)) undef = u := by
        rw [e]
        have h8 := (Array.getElem?_eq_some_iff.1 hu)
        obtain ⟨h8, h9⟩ := h8
        simp [Array.getD, h8, h9]
      rw [h9]
      exact hsat.mono hle (fun _ _ _ => rfl)

theorem ctr_freeze {P : Program} {f : FuncId} {C : Ctr} {te : TypeId} {ty : Ty} {xs : C.X → List ty.den} (hr : ∀ x, C.res x (C.val x) = .sl 1000) (ho : ∀ x, C.out x (C.val x) = [(1000, .row te ty (xs x))])
    (h : C.ok P f) : ({ C with res := fun x _ => .ro false ty (xs x), out := fun _ _ => [] } : Ctr).ok P f := by
  intro x hs
  obtain ⟨he, H⟩ := h x hs
  refine ⟨he, fun E fp vals w h1 h2 h3 h4 => CallsIn.mono (H E fp vals w h1 h2 h3 h4) ?_⟩
  rintro e w' ⟨v, E', fp', rfl, hv, hents, hadv, hn⟩
  rw [hr] at hv
  rw [ho] at hents
  have hrow : EntSat E' w' (fp' 1000) 1000 (.row te ty (xs x)) := hents.sat 1000
  let E2 : Env := { E' with I := fun b => E'.I b ∨ fp' 1000 b }
  have hle : E'.le E2 := ⟨fun _ _ h => h, fun _ h => .inl h, fun _ h => h⟩
  refine ⟨v, E2, fun _ _ => False, rfl, ?_, ⟨fun id => fun b h => h, fun _ _ h => h.elim, fun _ _ h => h.elim, fun _ _ h => h.elim, fun _ _ _ _ h => h.elim, fun b hb => ?_, hents.nil.mono hle, hents.gl.mono (fun b hb => .inl hb) (fun _ _ => rfl)⟩, ⟨hadv.keep, hadv.le.trans hle, fun b hb => ?_, hadv.Beq, fun _ _ h => h.elim⟩, hn⟩
  · cases hv with
    | sl _ s hs => exact row_ro hle hrow hs (fun b hb => .inr hb)
  · rcases hb with (hb | hb) | hb
    · exact hents.Ilt b (.inl hb)
    · exact hents.lt _ b hb
    · exact hents.Ilt b (.inr hb)
  · rcases hb with hb | hb
    · exact hadv.Inew b hb
    · exact .inr (hadv.onew _ b hb)
end Go.Proofs.YtoaaieiiamdopaaGreatDoor

set_option linter.unusedVariables false
set_option linter.unusedSimpArgs false
set_option linter.unusedSectionVars false
namespace Go.Proofs.YtoaaieiiamdopaaGreatDoor
open Go.Eng
variable [DM]
/-- All that is lent is taken for what is only read. -/
def envIB (E : Env) : Env := { E with I := fun b => E.I b ∨ E.B b }
theorem le_envIB (E : Env) : E.le (envIB E) := ⟨fun _ _ h => h, fun _ h => .inl h, fun _ h => h⟩
theorem ro_lend {E : Env} {w : World} {t : Ty} {xs : List t.den} {v : Value} (h : Sat E w (.ro true t xs) v) : Sat (envIB E) w (.ro false t xs) v := by
  cases h with
  | nil _ _ A c => exact .nil _ _ A c
  | ro _ _ _ k o c u hb hle' hc hs => exact .ro false t xs k o c u (.inl (hb.imp id And.right)) hle' hc (fun i x j sv hi hj => (hs i x j sv hi hj).mono (le_envIB E) (fun _ _ _ => rfl))
/-- What a caller need not freeze. -/
inductive Lends : SV → SV → Prop where
  | ro (t : Ty) (xs : List t.den) : Lends (.ro true t xs) (.ro false t xs)
  | same (s : SV) : Lends s s
theorem Lends.sat {s' s : SV} (h : Lends s' s) {E : Env} {w : World} {v : Value} (hs : Sat E w s' v) : Sat (envIB E) w s v := by
  cases h with
  | ro t xs => exact ro_lend hs
  | same => exact hs.mono (le_envIB E) (fun _ _ _ => rfl)
/-- Results that lean on nothing. -/
inductive Plain1 : SV → Prop where
  | v (x : Value) : Plain1 (.v x)
  | sl (i : Nat) : Plain1 (.sl i)
theorem ctr_lend {P : Program} {f : FuncId} {C : Ctr} {args' : C.X → List SV} (hrw : ∀ x, C.rw x = [])
    (hout : ∀ x, ∀ id, find (C.out x (C.val x)) id = .gone ∨ ∃ te t xs, find (C.out x (C.val x)) id = .row te t xs ∧ ∀ (y : t.den) (j : Nat) (sv : SV), (enc t y)[j]? = some sv → ∃ u, sv = .v u)
    (hres : ∀ x, Plain1 (C.res x (C.val x)))
    (hargs : ∀ x, (args' x).length = (C.args x).length ∧ ∀ (j : Nat) (s' : SV), (args' x)[j]? = some s' → ∃ s, (C.args x)[j]? = some s ∧ Lends s' s)
    (h : C.ok P f) : ({ C with args := args' } : Ctr).ok P f := by
  intro x hs
  obtain ⟨he, H⟩ := h x hs
  refine ⟨he, fun E fp vals w h1 h2 h3 h4 => ?_⟩
  have h3 : EntsSat E w fp (C.rw x) := h3
  rw [hrw x] at h3
  have hfp : ∀ id b, ¬ fp id b := fun id b hf => h3.sat id b hf
  have hE3 : EntsSat (envIB E) w fp (C.rw x) := by
    rw [hrw x]
    exact ⟨fun id => fun b hb => hfp id b hb, fun id b hb => (hfp id b hb).elim, fun id b hb => (hfp id b hb).elim, fun id b hb => (hfp id b hb).elim, fun i j b _ hb => (hfp i b hb).elim,
      fun b hb => h3.Ilt b (by rcases hb with (hb | hb) | hb; exact .inl hb; exact .inr hb; exact .inr hb), h3.nil.mono (le_envIB E), h3.gl.mono (fun b hb => .inl hb) (fun _ _ => rfl)⟩
  refine CallsIn.mono (H (envIB E) fp vals w (h1.trans (hargs x).1) (fun j s hj => ?_) hE3 h4) ?_
  · have hj' : j < (args' x).length := by rw [(hargs x).1]; exact (List.getElem?_eq_some_iff.1 hj).1
    obtain ⟨s2, e2, l2⟩ := (hargs x).2 j _ (List.getElem?_eq_getElem hj')
    obtain rfl : s2 = s := Option.some.inj (e2.symm.trans hj)
    exact l2.sat (h2 j _ (List.getElem?_eq_getElem hj'))
  · rintro e w' ⟨v, E', fp', rfl, hv, hents, hadv, hn⟩
    let E2 : Env := { E' with I := fun b => E.I b ∨ (E'.I b ∧ w.heap.size ≤ b) }
    have hIE : ∀ b, E2.I b → E'.I b := fun b hb => hb.elim (fun h => hadv.le.I b (.inl h)) And.left
    refine ⟨v, E2, fp', rfl, ?_, ⟨fun id => ?_, hents.lt, fun id b hb hI => hents.I id b hb (hIE b hI), hents.B, hents.apart, fun b hb => hents.Ilt b (hb.imp (hIE b) id), hents.nil, ?_⟩,
      ⟨hadv.keep, ⟨hadv.le.slot, fun b hb => .inl hb, hadv.le.B⟩, fun b hb => hb.imp id (fun h => .inr h.2), hadv.Beq, hadv.onew⟩, hn⟩
    · have hp := hres x
      generalize C.res x (C.val x) = r at hv hp
      cases hp with
      | v y => cases hv; exact .v _
      | sl i => cases hv with | sl _ s hs => exact .sl i s hs
    · have hsat := hents.sat id
      show EntSat E2 w' (fp' id) id (find (C.out x (C.val x)) id)
      rcases hout x id with hg | ⟨te, t, xs, hr, hpl⟩
      · rw [hg] at hsat ⊢; exact hsat
      · rw [hr] at hsat ⊢
        obtain ⟨s, k1, k2⟩ := hsat
        refine ⟨s, k1, ?_⟩
        rcases k2 with k2 | ⟨o, c, arr, fz, g1, g2, g3, g4, g5, g6, g7⟩
        · exact .inl k2
        · refine .inr ⟨o, c, arr, fz, g1, g2, g3, g4, g5, g6, fun i y j sv hi hj => ?_⟩
          obtain ⟨u, hu, hsu⟩ := g7 i y j sv hi hj
          obtain ⟨q, rfl⟩ := hpl y j sv hj
          cases hsu
          exact ⟨_, hu, .v _⟩
    · exact h3.gl.mono (fun b hb => .inl hb) (fun b hb => (h3.stays hadv.keep) b (.inl hb) (h3.Ilt b (.inl hb)))
end Go.Proofs.YtoaaieiiamdopaaGreatDoor

set_option linter.unusedVariables false
set_option linter.unusedSimpArgs false
set_option linter.unusedSectionVars false
namespace Go.Proofs.YtoaaieiiamdopaaGreatDoor
open Go.Eng
variable [DM]
theorem enc_run (y : runT.den) (j : Nat) (sv : SV) (h : (enc runT y)[j]? = some sv) : ∃ u, sv = .v u := by
  obtain ⟨a, b, c⟩ := y
  match j, h with
  | 0, h => exact ⟨_, (Option.some.inj h).symm⟩
  | 1, h => exact ⟨_, (Option.some.inj h).symm⟩
  | 2, h => exact ⟨_, (Option.some.inj h).symm⟩
theorem lends_two (a b : List Run) : ([.ro true runT a, .ro true runT b] : List SV).length = ([.ro false runT a, .ro false runT b] : List SV).length ∧
    ∀ (j : Nat) (s' : SV), ([.ro true runT a, .ro true runT b] : List SV)[j]? = some s' → ∃ s, ([.ro false runT a, .ro false runT b] : List SV)[j]? = some s ∧ Lends s' s :=
  ⟨rfl, fun j s' h => match j, h with
    | 0, h => ⟨_, rfl, by obtain rfl := Option.some.inj h; exact .ro _ _⟩
    | 1, h => ⟨_, rfl, by obtain rfl := Option.some.inj h; exact .ro _ _⟩⟩
theorem row_find (n : Nat) (te : TypeId) (xs : List Run) (id : Nat) : find [(n, .row te runT xs)] id = .gone ∨ ∃ te' t ys, find [(n, .row te runT xs)] id = .row te' t ys ∧ ∀ (y : t.den) (j : Nat) (sv : SV), (enc t y)[j]? = some sv → ∃ u, sv = .v u := by
  by_cases h : n = id
  · subst h
    exact .inr ⟨te, runT, xs, by simp [find], enc_run⟩
  · left
    have hb : Nat.beq n id = false := by rw [← Bool.not_eq_true, Nat.beq_eq]; exact h
    simp [find, hb]
@[reducible] def djoinT : Ctr := { djoinC with args := fun x => [.ro true runT x.1, .ro true runT x.2] }
theorem djoinT_ok : djoinT.ok Tryz.prog 25 := ctr_lend (C := djoinC) (fun _ => rfl) (fun x id => row_find 1000 _ _ id) (fun _ => .sl _) (fun x => lends_two x.1 x.2) djoin_ok
@[reducible] def dcmpT : Ctr := { dcmpC with args := fun x => [.ro true runT x.1, .ro true runT x.2] }
theorem dcmpT_ok : dcmpT.ok Tryz.prog 41 := ctr_lend (C := dcmpC) (fun _ => rfl) (fun x id => .inl rfl) (fun _ => .v _) (fun x => lends_two x.1 x.2) dcmp_ok
end Go.Proofs.YtoaaieiiamdopaaGreatDoor

set_option linter.unusedVariables false
set_option linter.unusedSimpArgs false
set_option maxRecDepth 100000
set_option maxHeartbeats 4000000
namespace Go.Proofs.YtoaaieiiamdopaaGreatDoor
open Go.Eng
def aboveF (a b : List Run) : Bool := decide (cmpF a b = 0) || decide (cmpF a b = 1)
@[reducible] def aboveC : Ctr := {
  X := List Run × List Run
  Y := Unit
  args := fun x => [.ro true runT x.1, .ro true runT x.2]
  rw := fun _ => []
  side := fun x => x.1.length ≤ 400000 ∧ x.2.length ≤ 400000
  val := fun _ => ()
  ens := fun _ _ => True
  res := fun x _ => .v (.bool (aboveF x.1 x.2))
  out := fun _ _ => [] }
theorem knownM1 : Known Tryz.prog (gOf [(41, dcmpT)]) := known_cons ⟨dcmpT_ok, Tryz.call41⟩ (known_nil _)
theorem above_ok : aboveC.ok Tryz.prog 26 := by
  refine ok_of_vc (An := fun _ => anOf []) knownM1 mo Tryz.func26 (by kernel_rfl) (by kernel_rfl) (fun _ _ => trivial) (fun x hs => ?_)
  obtain ⟨a, b⟩ := x
  obtain ⟨h1, h2⟩ : a.length ≤ 400000 ∧ b.length ≤ 400000 := hs
  by_cases h0 : cmpF a b = 0
  · have hA : aboveF a b = true := by unfold aboveF; rw [h0]; rfl
    ((repeat' ((conv => whnf) <;> first | exact True.intro | (guard_target =~ Fork _ _ _; first | refine F1 ?_ | refine F2 ?_ | (refine Fork.pos ?_ ?_; · (simp only [hA, Bool.not_true, Bool.not_false, decide_eq_true_eq, beq_iff_eq, bne_iff_ne, ne_eq] <;> omega)) | (refine Fork.neg ?_ ?_; · (simp only [hA, Bool.not_true, Bool.not_false, decide_eq_false_iff_not, beq_eq_false_iff_ne] <;> omega)) | refine F3 (fun h => ?_) fun h => ?_) | (guard_target =~ Ar _ _ _; first | refine A1 ?_ | refine A2 ?_ | refine A3 ?_ | (refine Ar.fit (wrap_i64 ?_ ?_) ?_; · ((try dsimp only) <;> simp only [hA] <;> omega); · ((try dsimp only) <;> simp only [hA] <;> omega)) | (refine Ar.fit (wrap_u64 ?_ ?_) ?_; · ((try dsimp only) <;> simp only [hA] <;> omega); · ((try dsimp only) <;> simp only [hA] <;> omega))) | (guard_target =~ AskL _ _; first | (refine AskL.mk ?_ ?_; · ((simp only [conj]; repeat' apply And.intro) <;> first | rfl | trivial | omega | (simp only [hA]; done) | (simp only [hA] <;> omega) | (simp only [hA]; refine Bool.eq_iff_iff.2 ?_; simp only [decide_eq_true_eq, Bool.false_eq_true, true_iff, iff_true, false_iff, iff_false, eq_self]; omega) | (simp only [*, hA]; done))) | refine L1 ?_) | (guard_target =~ Go.Eng.Ask _ _; first | refine K1 ?_ | (refine Ask.mk ?_ ?_; · ((try dsimp only) <;> simp only [hA] <;> omega))) | (guard_target =~ All' _ _; first | (refine Y2 fun y he he' hy => ?_; (try dsimp only at he he' hy)) | (refine Y1 fun y he hy => ?_; (try with_reducible conv at he => (rhs; whnf)); (try dsimp only at he hy)) | (refine All'.mk ?_; intro y hy)) | refine F4 (fun h => ?_) fun h => ?_ | refine R1 ?_ | refine Q1 ?_ | fail)); all_goals (conv => whnf))
    refine CallP.mk (C := dcmpT) (a, b) ?_
    ((repeat' ((conv => whnf) <;> first | exact True.intro | (guard_target =~ Fork _ _ _; first | refine F1 ?_ | refine F2 ?_ | (refine Fork.pos ?_ ?_; · (simp only [hA, Bool.not_true, Bool.not_false, decide_eq_true_eq, beq_iff_eq, bne_iff_ne, ne_eq] <;> omega)) | (refine Fork.neg ?_ ?_; · (simp only [hA, Bool.not_true, Bool.not_false, decide_eq_false_iff_not, beq_eq_false_iff_ne] <;> omega)) | refine F3 (fun h => ?_) fun h => ?_) | (guard_target =~ Ar _ _ _; first | refine A1 ?_ | refine A2 ?_ | refine A3 ?_ | (refine Ar.fit (wrap_i64 ?_ ?_) ?_; · ((try dsimp only) <;> simp only [hA] <;> omega); · ((try dsimp only) <;> simp only [hA] <;> omega)) | (refine Ar.fit (wrap_u64 ?_ ?_) ?_; · ((try dsimp only) <;> simp only [hA] <;> omega); · ((try dsimp only) <;> simp only [hA] <;> omega))) | (guard_target =~ AskL _ _; first | (refine AskL.mk ?_ ?_; · ((simp only [conj]; repeat' apply And.intro) <;> first | rfl | trivial | omega | (simp only [hA]; done) | (simp only [hA] <;> omega) | (simp only [hA]; refine Bool.eq_iff_iff.2 ?_; simp only [decide_eq_true_eq, Bool.false_eq_true, true_iff, iff_true, false_iff, iff_false, eq_self]; omega) | (simp only [*, hA]; done))) | refine L1 ?_) | (guard_target =~ Go.Eng.Ask _ _; first | refine K1 ?_ | (refine Ask.mk ?_ ?_; · ((try dsimp only) <;> simp only [hA] <;> omega))) | (guard_target =~ All' _ _; first | (refine Y2 fun y he he' hy => ?_; (try dsimp only at he he' hy)) | (refine Y1 fun y he hy => ?_; (try with_reducible conv at he => (rhs; whnf)); (try dsimp only at he hy)) | (refine All'.mk ?_; intro y hy)) | refine F4 (fun h => ?_) fun h => ?_ | refine R1 ?_ | refine Q1 ?_ | fail)); all_goals (conv => whnf))
  · by_cases h3 : cmpF a b = 1
    · have hA : aboveF a b = true := by unfold aboveF; rw [h3]; rfl
      ((repeat' ((conv => whnf) <;> first | exact True.intro | (guard_target =~ Fork _ _ _; first | refine F1 ?_ | refine F2 ?_ | (refine Fork.pos ?_ ?_; · (simp only [hA, Bool.not_true, Bool.not_false, decide_eq_true_eq, beq_iff_eq, bne_iff_ne, ne_eq] <;> omega)) | (refine Fork.neg ?_ ?_; · (simp only [hA, Bool.not_true, Bool.not_false, decide_eq_false_iff_not, beq_eq_false_iff_ne] <;> omega)) | refine F3 (fun h => ?_) fun h => ?_) | (guard_target =~ Ar _ _ _; first | refine A1 ?_ | refine A2 ?_ | refine A3 ?_ | (refine Ar.fit (wrap_i64 ?_ ?_) ?_; · ((try dsimp only) <;> simp only [hA] <;> omega); · ((try dsimp only) <;> simp only [hA] <;> omega)) | (refine Ar.fit (wrap_u64 ?_ ?_) ?_; · ((try dsimp only) <;> simp only [hA] <;> omega); · ((try dsimp only) <;> simp only [hA] <;> omega))) | (guard_target =~ AskL _ _; first | (refine AskL.mk ?_ ?_; · ((simp only [conj]; repeat' apply And.intro) <;> first | rfl | trivial | omega | (simp only [hA]; done) | (simp only [hA] <;> omega) | (simp only [hA]; refine Bool.eq_iff_iff.2 ?_; simp only [decide_eq_true_eq, Bool.false_eq_true, true_iff, iff_true, false_iff, iff_false, eq_self]; omega) | (simp only [*, hA]; done))) | refine L1 ?_) | (guard_target =~ Go.Eng.Ask _ _; first | refine K1 ?_ | (refine Ask.mk ?_ ?_; · ((try dsimp only) <;> simp only [hA] <;> omega))) | (guard_target =~ All' _ _; first | (refine Y2 fun y he he' hy => ?_; (try dsimp only at he he' hy)) | (refine Y1 fun y he hy => ?_; (try with_reducible conv at he => (rhs; whnf)); (try dsimp only at he hy)) | (refine All'.mk ?_; intro y hy)) | refine F4 (fun h => ?_) fun h => ?_ | refine R1 ?_ | refine Q1 ?_ | fail)); all_goals (conv => whnf))
      refine CallP.mk (C := dcmpT) (a, b) ?_
      ((repeat' ((conv => whnf) <;> first | exact True.intro | (guard_target =~ Fork _ _ _; first | refine F1 ?_ | refine F2 ?_ | (refine Fork.pos ?_ ?_; · (simp only [hA, Bool.not_true, Bool.not_false, decide_eq_true_eq, beq_iff_eq, bne_iff_ne, ne_eq] <;> omega)) | (refine Fork.neg ?_ ?_; · (simp only [hA, Bool.not_true, Bool.not_false, decide_eq_false_iff_not, beq_eq_false_iff_ne] <;> omega)) | refine F3 (fun h => ?_) fun h => ?_) | (guard_target =~ Ar _ _ _; first | refine A1 ?_ | refine A2 ?_ | refine A3 ?_ | (refine Ar.fit (wrap_i64 ?_ ?_) ?_; · ((try dsimp only) <;> simp only [hA] <;> omega); · ((try dsimp only) <;> simp only [hA] <;> omega)) | (refine Ar.fit (wrap_u64 ?_ ?_) ?_; · ((try dsimp only) <;> simp only [hA] <;> omega); · ((try dsimp only) <;> simp only [hA] <;> omega))) | (guard_target =~ AskL _ _; first | (refine AskL.mk ?_ ?_; · ((simp only [conj]; repeat' apply And.intro) <;> first | rfl | trivial | omega | (simp only [hA]; done) | (simp only [hA] <;> omega) | (simp only [hA]; refine Bool.eq_iff_iff.2 ?_; simp only [decide_eq_true_eq, Bool.false_eq_true, true_iff, iff_true, false_iff, iff_false, eq_self]; omega) | (simp only [*, hA]; done))) | refine L1 ?_) | (guard_target =~ Go.Eng.Ask _ _; first | refine K1 ?_ | (refine Ask.mk ?_ ?_; · ((try dsimp only) <;> simp only [hA] <;> omega))) | (guard_target =~ All' _ _; first | (refine Y2 fun y he he' hy => ?_; (try dsimp only at he he' hy)) | (refine Y1 fun y he hy => ?_; (try with_reducible conv at he => (rhs; whnf)); (try dsimp only at he hy)) | (refine All'.mk ?_; intro y hy)) | refine F4 (fun h => ?_) fun h => ?_ | refine R1 ?_ | refine Q1 ?_ | fail)); all_goals (conv => whnf))
      refine AskL.mk ?_ trivial
      dsimp only [conj]
      show (cmpF a b == 1) = aboveF a b
      rw [hA]; first | exact decide_eq_true h3 | exact decide_eq_false h3
    · have hA : aboveF a b = false := by unfold aboveF; rw [decide_eq_false h0, decide_eq_false h3]; rfl
      ((repeat' ((conv => whnf) <;> first | exact True.intro | (guard_target =~ Fork _ _ _; first | refine F1 ?_ | refine F2 ?_ | (refine Fork.pos ?_ ?_; · (simp only [hA, Bool.not_true, Bool.not_false, decide_eq_true_eq, beq_iff_eq, bne_iff_ne, ne_eq] <;> omega)) | (refine Fork.neg ?_ ?_; · (simp only [hA, Bool.not_true, Bool.not_false, decide_eq_false_iff_not, beq_eq_false_iff_ne] <;> omega)) | refine F3 (fun h => ?_) fun h => ?_) | (guard_target =~ Ar _ _ _; first | refine A1 ?_ | refine A2 ?_ | refine A3 ?_ | (refine Ar.fit (wrap_i64 ?_ ?_) ?_; · ((try dsimp only) <;> simp only [hA] <;> omega); · ((try dsimp only) <;> simp only [hA] <;> omega)) | (refine Ar.fit (wrap_u64 ?_ ?_) ?_; · ((try dsimp only) <;> simp only [hA] <;> omega); · ((try dsimp only) <;> simp only [hA] <;> omega))) | (guard_target =~ AskL _ _; first | (refine AskL.mk ?_ ?_; · ((simp only [conj]; repeat' apply And.intro) <;> first | rfl | trivial | omega | (simp only [hA]; done) | (simp only [hA] <;> omega) | (simp only [hA]; refine Bool.eq_iff_iff.2 ?_; simp only [decide_eq_true_eq, Bool.false_eq_true, true_iff, iff_true, false_iff, iff_false, eq_self]; omega) | (simp only [*, hA]; done))) | refine L1 ?_) | (guard_target =~ Go.Eng.Ask _ _; first | refine K1 ?_ | (refine Ask.mk ?_ ?_; · ((try dsimp only) <;> simp only [hA] <;> omega))) | (guard_target =~ All' _ _; first | (refine Y2 fun y he he' hy => ?_; (try dsimp only at he he' hy)) | (refine Y1 fun y he hy => ?_; (try with_reducible conv at he => (rhs; whnf)); (try dsimp only at he hy)) | (refine All'.mk ?_; intro y hy)) | refine F4 (fun h => ?_) fun h => ?_ | refine R1 ?_ | refine Q1 ?_ | fail)); all_goals (conv => whnf))
      refine CallP.mk (C := dcmpT) (a, b) ?_
      ((repeat' ((conv => whnf) <;> first | exact True.intro | (guard_target =~ Fork _ _ _; first | refine F1 ?_ | refine F2 ?_ | (refine Fork.pos ?_ ?_; · (simp only [hA, Bool.not_true, Bool.not_false, decide_eq_true_eq, beq_iff_eq, bne_iff_ne, ne_eq] <;> omega)) | (refine Fork.neg ?_ ?_; · (simp only [hA, Bool.not_true, Bool.not_false, decide_eq_false_iff_not, beq_eq_false_iff_ne] <;> omega)) | refine F3 (fun h => ?_) fun h => ?_) | (guard_target =~ Ar _ _ _; first | refine A1 ?_ | refine A2 ?_ | refine A3 ?_ | (refine Ar.fit (wrap_i64 ?_ ?_) ?_; · ((try dsimp only) <;> simp only [hA] <;> omega); · ((try dsimp only) <;> simp only [hA] <;> omega)) | (refine Ar.fit (wrap_u64 ?_ ?_) ?_; · ((try dsimp only) <;> simp only [hA] <;> omega); · ((try dsimp only) <;> simp only [hA] <;> omega))) | (guard_target =~ AskL _ _; first | (refine AskL.mk ?_ ?_; · ((simp only [conj]; repeat' apply And.intro) <;> first | rfl | trivial | omega | (simp only [hA]; done) | (simp only [hA] <;> omega) | (simp only [hA]; refine Bool.eq_iff_iff.2 ?_; simp only [decide_eq_true_eq, Bool.false_eq_true, true_iff, iff_true, false_iff, iff_false, eq_self]; omega) | (simp only [*, hA]; done))) | refine L1 ?_) | (guard_target =~ Go.Eng.Ask _ _; first | refine K1 ?_ | (refine Ask.mk ?_ ?_; · ((try dsimp only) <;> simp only [hA] <;> omega))) | (guard_target =~ All' _ _; first | (refine Y2 fun y he he' hy => ?_; (try dsimp only at he he' hy)) | (refine Y1 fun y he hy => ?_; (try with_reducible conv at he => (rhs; whnf)); (try dsimp only at he hy)) | (refine All'.mk ?_; intro y hy)) | refine F4 (fun h => ?_) fun h => ?_ | refine R1 ?_ | refine Q1 ?_ | fail)); all_goals (conv => whnf))
      refine AskL.mk ?_ trivial
      dsimp only [conj]
      show (cmpF a b == 1) = aboveF a b
      rw [hA]; first | exact decide_eq_true h3 | exact decide_eq_false h3
end Go.Proofs.YtoaaieiiamdopaaGreatDoor

/-! DERIVED: THE SHELF's CONTRACTS AT THIS DUMP, IN PLAIN WORDS (tools/lay-plain.mjs out of 'TryzShelf.lean', which tools/lay-shelf.mjs wrote): THE SAME DECLARATIONS UNDER THE SAME NAMES: 'import', 'namespace', 'open', 'def', 'theorem' AND NOTHING ELSE: no command of the shelf's: FOR A HAND-IN. Each laying: the table of numbers ('.._ren') and one theorem, a field a fact of the dump's own or the kernel's comparison; each contract: ONE APPLICATION. -/
namespace Go.Proofs
open Go.Shelf
def Tryz.lays156_ren : Go.Shelf.Ren := ⟨fun | 156 => 61 | 165 => 81 | 166 => 82 | 169 => 83 | 240 => 100 | 241 => 101 | 276 => 121 | 277 => 122 | n => n, fun | 31 => 77 | 9 => 9 | 3 => 3 | 4 => 4 | 0 => 0 | 20 => 20 | 72 => 108 | 76 => 104 | 70 => 106 | 37 => 28 | 75 => 103 | 127 => 122 | 164 => 141 | 5 => 5 | 80 => 109 | n => n, fun | n => n⟩
theorem Tryz.lays156 : Go.Proofs.Lays.n156 Tryz.prog Tryz.lays156_ren := {
  mixed := by kernel_rfl
  f156 := Tryz.func61.trans (congrArg some (by kernel_rfl))
  f165 := Tryz.func81.trans (congrArg some (by kernel_rfl))
  f166 := Tryz.func82.trans (congrArg some (by kernel_rfl))
  f169 := Tryz.func83.trans (congrArg some (by kernel_rfl))
  f240 := Tryz.func100.trans (congrArg some (by kernel_rfl))
  f241 := Tryz.func101.trans (congrArg some (by kernel_rfl))
  f276 := Tryz.func121.trans (congrArg some (by kernel_rfl))
  f277 := Tryz.func122.trans (congrArg some (by kernel_rfl))
  t0 := Tryz.underlying0
  a0 := Tryz.isAgg0
  z0 := Tryz.sizeOf0
  v0 := Tryz.zeroValue0
  t3 := Tryz.underlying3
  a3 := Tryz.isAgg3
  z3 := Tryz.sizeOf3
  v3 := Tryz.zeroValue3
  t4 := Tryz.underlying4
  a4 := Tryz.isAgg4
  z4 := Tryz.sizeOf4
  v4 := Tryz.zeroValue4
  t9 := Tryz.underlying9
  a9 := Tryz.isAgg9
  z9 := Tryz.sizeOf9
  v9 := Tryz.zeroValue9
  t20 := Tryz.underlying20
  a20 := Tryz.isAgg20
  z20 := Tryz.sizeOf20
  v20 := Tryz.zeroValue20
  t31 := Tryz.underlying77
  a31 := Tryz.isAgg77
  z31 := Tryz.sizeOf77
  v31 := Tryz.zeroValue77
  t37 := Tryz.underlying28
  a37 := Tryz.isAgg28
  z37 := Tryz.sizeOf28
  v37 := Tryz.zeroValue28
  t70 := Tryz.underlying106
  a70 := Tryz.isAgg106
  z70 := Tryz.sizeOf106
  v70 := Tryz.zeroValue106
  t72 := Tryz.underlying108
  a72 := Tryz.isAgg108
  z72 := Tryz.sizeOf108
  v72 := Tryz.zeroValue108
  t75 := Tryz.underlying103
  a75 := Tryz.isAgg103
  z75 := Tryz.sizeOf103
  v75 := Tryz.zeroValue103
  t76 := Tryz.underlying104
  a76 := Tryz.isAgg104
  z76 := Tryz.sizeOf104
  v76 := Tryz.zeroValue104
  t127 := Tryz.underlying122
  a127 := Tryz.isAgg122
  z127 := Tryz.sizeOf122
  v127 := Tryz.zeroValue122
  t164 := Tryz.underlying141
  a164 := Tryz.isAgg141
  z164 := Tryz.sizeOf141
  v164 := Tryz.zeroValue141 }
theorem Tryz.Builder_Extra_156 : Builder.Extra Tryz.prog Tryz.lays156_ren := {
  sizeBuilder := by kernel_rfl
  liesBuilder := by kernel_rfl
  t5 := Tryz.underlying5
  a5 := Tryz.isAgg5
  z5 := Tryz.sizeOf5
  v5 := Tryz.zeroValue5
  infoByte := by kernel_rfl
  cellsByte := by kernel_rfl
  sizeByte := by kernel_rfl
  neB5 := by decide }
open Go.RowKit in
theorem Tryz.strings_Join_none (a : Option Addr) (c : Nat) (sep : ByteArray) (w : World) :
    Calls Tryz.prog 61 #[.slice a 0 c, .string sep] w fun e w' => e = .returned (.string ⟨#[]⟩) ∧ w' = w := Any.strings_Join_none Tryz.lays156 Tryz.Builder_Extra_156 a c sep w
open Go.RowKit in
theorem Tryz.strings_Join (bk o c : Nat) (xs : List ByteArray) (sep : ByteArray) (w : World) (hcells : ∀ (j : Nat) x, xs[j]? = some x → w.cell? ⟨bk, o + j, none⟩ = some (.string x)) (hbk : bk < w.heap.size) (hN : xs.length ≤ 140737488355328) (hcap : xs.length ≤ c) (hlen : (Lib.join (xs.map (·.data.toList)) sep.data.toList).length ≤ 140737488355328) :
    Calls Tryz.prog 61 #[.slice (some ⟨bk, o, none⟩) xs.length c, .string sep] w fun e w' => e = .returned (.string ⟨(Lib.join (xs.map (·.data.toList)) sep.data.toList).toArray⟩) ∧ Below w.heap.size w w' := Any.strings_Join Tryz.lays156 Tryz.Builder_Extra_156 bk o c xs sep w hcells hbk hN hcap hlen
def Tryz.laysM171_ren : Go.Shelf.Ren := ⟨fun | 171 => 60 | 243 => 80 | 246 => 99 | 283 => 117 | 284 => 118 | 285 => 119 | 286 => 120 | 129 => 132 | 317 => 139 | 318 => 140 | 319 => 141 | 320 => 142 | 337 => 150 | 338 => 151 | n => n, fun | 3 => 3 | 9 => 9 | 2 => 2 | 4 => 4 | 171 => 137 | 0 => 0 | 53 => 69 | 37 => 28 | 5 => 5 | 173 => 139 | 212 => 161 | 51 => 151 | 20 => 20 | 213 => 162 | 46 => 117 | 232 => 181 | 233 => 182 | n => n, fun | 17 => 3 | 18 => 6 | 19 => 7 | n => n⟩
theorem Tryz.laysM171 : Go.Proofs.LaysM.n171 Tryz.prog Tryz.laysM171_ren := {
  mixed := by kernel_rfl
  f129 := Tryz.func132.trans (congrArg some (by kernel_rfl))
  f171 := Tryz.func60.trans (congrArg some (by kernel_rfl))
  f243 := Tryz.func80.trans (congrArg some (by kernel_rfl))
  f246 := Tryz.func99.trans (congrArg some (by kernel_rfl))
  f283 := Tryz.func117.trans (congrArg some (by kernel_rfl))
  f284 := Tryz.func118.trans (congrArg some (by kernel_rfl))
  f285 := Tryz.func119.trans (congrArg some (by kernel_rfl))
  f286 := Tryz.func120.trans (congrArg some (by kernel_rfl))
  f317 := Tryz.func139.trans (congrArg some (by kernel_rfl))
  f318 := Tryz.func140.trans (congrArg some (by kernel_rfl))
  f319 := Tryz.func141.trans (congrArg some (by kernel_rfl))
  f320 := Tryz.func142.trans (congrArg some (by kernel_rfl))
  f337 := Tryz.func150.trans (congrArg some (by kernel_rfl))
  f338 := Tryz.func151.trans (congrArg some (by kernel_rfl))
  t0 := Tryz.underlying0
  a0 := Tryz.isAgg0
  z0 := Tryz.sizeOf0
  v0 := Tryz.zeroValue0
  t2 := Tryz.underlying2
  a2 := Tryz.isAgg2
  z2 := Tryz.sizeOf2
  v2 := Tryz.zeroValue2
  t3 := Tryz.underlying3
  a3 := Tryz.isAgg3
  z3 := Tryz.sizeOf3
  v3 := Tryz.zeroValue3
  t4 := Tryz.underlying4
  a4 := Tryz.isAgg4
  z4 := Tryz.sizeOf4
  v4 := Tryz.zeroValue4
  t5 := Tryz.underlying5
  a5 := Tryz.isAgg5
  z5 := Tryz.sizeOf5
  v5 := Tryz.zeroValue5
  t9 := Tryz.underlying9
  a9 := Tryz.isAgg9
  z9 := Tryz.sizeOf9
  v9 := Tryz.zeroValue9
  t20 := Tryz.underlying20
  a20 := Tryz.isAgg20
  z20 := Tryz.sizeOf20
  v20 := Tryz.zeroValue20
  t37 := Tryz.underlying28
  a37 := Tryz.isAgg28
  z37 := Tryz.sizeOf28
  v37 := Tryz.zeroValue28
  t46 := Tryz.underlying117
  a46 := Tryz.isAgg117
  z46 := Tryz.sizeOf117
  v46 := Tryz.zeroValue117
  t51 := Tryz.underlying151
  a51 := Tryz.isAgg151
  z51 := Tryz.sizeOf151
  v51 := Tryz.zeroValue151
  t53 := Tryz.underlying69
  a53 := Tryz.isAgg69
  z53 := Tryz.sizeOf69
  v53 := Tryz.zeroValue69
  t171 := Tryz.underlying137
  a171 := Tryz.isAgg137
  z171 := Tryz.sizeOf137
  v171 := Tryz.zeroValue137
  t173 := Tryz.underlying139
  a173 := Tryz.isAgg139
  z173 := Tryz.sizeOf139
  v173 := Tryz.zeroValue139
  t212 := Tryz.underlying161
  a212 := Tryz.isAgg161
  z212 := Tryz.sizeOf161
  v212 := Tryz.zeroValue161
  t213 := Tryz.underlying162
  a213 := Tryz.isAgg162
  z213 := Tryz.sizeOf162
  t232 := Tryz.underlying181
  a232 := Tryz.isAgg181
  z232 := Tryz.sizeOf181
  v232 := Tryz.zeroValue181
  t233 := Tryz.underlying182
  a233 := Tryz.isAgg182
  z233 := Tryz.sizeOf182
  v233 := Tryz.zeroValue182
  g17 := by kernel_rfl
  g18 := by kernel_rfl
  g19 := by kernel_rfl
  i0 := by kernel_rfl
  i2 := by kernel_rfl
  i3 := by kernel_rfl
  i4 := by kernel_rfl
  i5 := by kernel_rfl
  i9 := by kernel_rfl
  i20 := by kernel_rfl
  i37 := by kernel_rfl
  i46 := by kernel_rfl
  i51 := by kernel_rfl
  i53 := by kernel_rfl
  i171 := by kernel_rfl
  i173 := by kernel_rfl
  i212 := by kernel_rfl
  i232 := by kernel_rfl
  i233 := by kernel_rfl
  m17 := by kernel_rfl
  m18 := by kernel_rfl
  m19 := by kernel_rfl }
open Go.RowKit Go.Sort Go.Lib in
theorem Tryz.strconv_Itoa (n : Int) (h0 : -9223372036854775808 ≤ n) (h1 : n ≤ 9223372036854775807) (w : World) (htab : Lib.TabIs Tryz.prog w "internal/strconv.uint64pow10" .u64 Lib.pow10Tab) :
    Calls Tryz.prog 60 #[.int .i64 n] w fun e w' => e = .returned (.string ⟨(Lib.itoa n).toArray⟩) ∧ ∃ k os, w' = grow (w.drewN k) os := Any.strconv_Itoa Tryz.laysM171 n h0 h1 w htab
def Tryz.laysC172_ren : Go.Shelf.Ren := ⟨fun | 172 => 79 | 244 => 97 | 245 => 98 | 247 => 112 | 279 => 113 | 280 => 114 | 281 => 115 | 282 => 116 | 287 => 136 | 316 => 137 | 171 => 60 | 205 => 138 | 321 => 148 | 322 => 149 | 243 => 80 | 246 => 99 | 283 => 117 | 284 => 118 | 285 => 119 | 286 => 120 | 129 => 132 | 317 => 139 | 318 => 140 | 319 => 141 | 320 => 142 | 337 => 150 | 338 => 151 | n => n, fun | 9 => 9 | 3 => 3 | 75 => 103 | 76 => 104 | 4 => 4 | 5 => 5 | 167 => 131 | 37 => 28 | 0 => 0 | 85 => 132 | 2 => 2 | 168 => 134 | 53 => 69 | 175 => 154 | 46 => 117 | 210 => 158 | 127 => 122 | 145 => 177 | 143 => 175 | 21 => 21 | 171 => 137 | 173 => 139 | 212 => 161 | 51 => 151 | 20 => 20 | 213 => 162 | 232 => 181 | 233 => 182 | 80 => 109 | n => n, fun | 15 => 1 | 16 => 2 | 17 => 3 | 18 => 6 | 19 => 7 | n => n⟩
theorem Tryz.laysC172 : Go.Proofs.LaysC.n172 Tryz.prog Tryz.laysC172_ren := {
  mixed := by kernel_rfl
  f129 := Tryz.func132.trans (congrArg some (by kernel_rfl))
  f171 := Tryz.func60.trans (congrArg some (by kernel_rfl))
  f172 := Tryz.func79.trans (congrArg some (by kernel_rfl))
  f205 := Tryz.func138.trans (congrArg some (by kernel_rfl))
  f243 := Tryz.func80.trans (congrArg some (by kernel_rfl))
  f244 := Tryz.func97.trans (congrArg some (by kernel_rfl))
  f245 := Tryz.func98.trans (congrArg some (by kernel_rfl))
  f246 := Tryz.func99.trans (congrArg some (by kernel_rfl))
  f247 := Tryz.func112.trans (congrArg some (by kernel_rfl))
  f279 := Tryz.func113.trans (congrArg some (by kernel_rfl))
  f280 := Tryz.func114.trans (congrArg some (by kernel_rfl))
  f281 := Tryz.func115.trans (congrArg some (by kernel_rfl))
  f282 := Tryz.func116.trans (congrArg some (by kernel_rfl))
  f283 := Tryz.func117.trans (congrArg some (by kernel_rfl))
  f284 := Tryz.func118.trans (congrArg some (by kernel_rfl))
  f285 := Tryz.func119.trans (congrArg some (by kernel_rfl))
  f286 := Tryz.func120.trans (congrArg some (by kernel_rfl))
  f287 := Tryz.func136.trans (congrArg some (by kernel_rfl))
  f316 := Tryz.func137.trans (congrArg some (by kernel_rfl))
  f317 := Tryz.func139.trans (congrArg some (by kernel_rfl))
  f318 := Tryz.func140.trans (congrArg some (by kernel_rfl))
  f319 := Tryz.func141.trans (congrArg some (by kernel_rfl))
  f320 := Tryz.func142.trans (congrArg some (by kernel_rfl))
  f321 := Tryz.func148.trans (congrArg some (by kernel_rfl))
  f322 := Tryz.func149.trans (congrArg some (by kernel_rfl))
  f337 := Tryz.func150.trans (congrArg some (by kernel_rfl))
  f338 := Tryz.func151.trans (congrArg some (by kernel_rfl))
  t0 := Tryz.underlying0
  a0 := Tryz.isAgg0
  z0 := Tryz.sizeOf0
  v0 := Tryz.zeroValue0
  t2 := Tryz.underlying2
  a2 := Tryz.isAgg2
  z2 := Tryz.sizeOf2
  v2 := Tryz.zeroValue2
  t3 := Tryz.underlying3
  a3 := Tryz.isAgg3
  z3 := Tryz.sizeOf3
  v3 := Tryz.zeroValue3
  t4 := Tryz.underlying4
  a4 := Tryz.isAgg4
  z4 := Tryz.sizeOf4
  v4 := Tryz.zeroValue4
  t5 := Tryz.underlying5
  a5 := Tryz.isAgg5
  z5 := Tryz.sizeOf5
  v5 := Tryz.zeroValue5
  t9 := Tryz.underlying9
  a9 := Tryz.isAgg9
  z9 := Tryz.sizeOf9
  v9 := Tryz.zeroValue9
  t20 := Tryz.underlying20
  a20 := Tryz.isAgg20
  z20 := Tryz.sizeOf20
  v20 := Tryz.zeroValue20
  t21 := Tryz.underlying21
  a21 := Tryz.isAgg21
  z21 := Tryz.sizeOf21
  v21 := Tryz.zeroValue21
  t37 := Tryz.underlying28
  a37 := Tryz.isAgg28
  z37 := Tryz.sizeOf28
  v37 := Tryz.zeroValue28
  t46 := Tryz.underlying117
  a46 := Tryz.isAgg117
  z46 := Tryz.sizeOf117
  v46 := Tryz.zeroValue117
  t51 := Tryz.underlying151
  a51 := Tryz.isAgg151
  z51 := Tryz.sizeOf151
  v51 := Tryz.zeroValue151
  t53 := Tryz.underlying69
  a53 := Tryz.isAgg69
  z53 := Tryz.sizeOf69
  v53 := Tryz.zeroValue69
  t75 := Tryz.underlying103
  a75 := Tryz.isAgg103
  z75 := Tryz.sizeOf103
  v75 := Tryz.zeroValue103
  t76 := Tryz.underlying104
  a76 := Tryz.isAgg104
  z76 := Tryz.sizeOf104
  v76 := Tryz.zeroValue104
  t85 := Tryz.underlying132
  a85 := Tryz.isAgg132
  z85 := Tryz.sizeOf132
  v85 := Tryz.zeroValue132
  t127 := Tryz.underlying122
  a127 := Tryz.isAgg122
  z127 := Tryz.sizeOf122
  v127 := Tryz.zeroValue122
  t143 := Tryz.underlying175
  a143 := Tryz.isAgg175
  z143 := Tryz.sizeOf175
  v143 := Tryz.zeroValue175
  t145 := Tryz.underlying177
  a145 := Tryz.isAgg177
  z145 := Tryz.sizeOf177
  v145 := Tryz.zeroValue177
  t167 := Tryz.underlying131
  a167 := Tryz.isAgg131
  z167 := Tryz.sizeOf131
  v167 := Tryz.zeroValue131
  t168 := Tryz.underlying134
  a168 := Tryz.isAgg134
  z168 := Tryz.sizeOf134
  v168 := Tryz.zeroValue134
  t171 := Tryz.underlying137
  a171 := Tryz.isAgg137
  z171 := Tryz.sizeOf137
  v171 := Tryz.zeroValue137
  t173 := Tryz.underlying139
  a173 := Tryz.isAgg139
  z173 := Tryz.sizeOf139
  v173 := Tryz.zeroValue139
  t175 := Tryz.underlying154
  a175 := Tryz.isAgg154
  z175 := Tryz.sizeOf154
  v175 := Tryz.zeroValue154
  t210 := Tryz.underlying158
  a210 := Tryz.isAgg158
  z210 := Tryz.sizeOf158
  v210 := Tryz.zeroValue158
  t212 := Tryz.underlying161
  a212 := Tryz.isAgg161
  z212 := Tryz.sizeOf161
  v212 := Tryz.zeroValue161
  t213 := Tryz.underlying162
  a213 := Tryz.isAgg162
  z213 := Tryz.sizeOf162
  t232 := Tryz.underlying181
  a232 := Tryz.isAgg181
  z232 := Tryz.sizeOf181
  v232 := Tryz.zeroValue181
  t233 := Tryz.underlying182
  a233 := Tryz.isAgg182
  z233 := Tryz.sizeOf182
  v233 := Tryz.zeroValue182
  g15 := by kernel_rfl
  g16 := by kernel_rfl
  g17 := by kernel_rfl
  g18 := by kernel_rfl
  g19 := by kernel_rfl
  t80 := Tryz.underlying109
  a80 := Tryz.isAgg109
  z80 := Tryz.sizeOf109
  v80 := Tryz.zeroValue109
  i0 := by kernel_rfl
  i2 := by kernel_rfl
  i3 := by kernel_rfl
  i4 := by kernel_rfl
  i5 := by kernel_rfl
  i9 := by kernel_rfl
  i20 := by kernel_rfl
  i21 := by kernel_rfl
  i37 := by kernel_rfl
  i46 := by kernel_rfl
  i51 := by kernel_rfl
  i53 := by kernel_rfl
  i75 := by kernel_rfl
  i76 := by kernel_rfl
  i80 := by kernel_rfl
  i85 := by kernel_rfl
  i127 := by kernel_rfl
  i143 := by kernel_rfl
  i145 := by kernel_rfl
  i167 := by kernel_rfl
  i168 := by kernel_rfl
  i171 := by kernel_rfl
  i173 := by kernel_rfl
  i175 := by kernel_rfl
  i210 := by kernel_rfl
  i212 := by kernel_rfl
  i232 := by kernel_rfl
  i233 := by kernel_rfl
  m15 := by kernel_rfl
  m16 := by kernel_rfl
  m17 := by kernel_rfl
  m18 := by kernel_rfl
  m19 := by kernel_rfl
  c0 := by kernel_rfl
  c2 := by kernel_rfl
  c3 := by kernel_rfl
  c4 := by kernel_rfl
  c5 := by kernel_rfl
  c9 := by kernel_rfl
  c20 := by kernel_rfl
  c21 := by kernel_rfl
  c37 := by kernel_rfl
  c46 := by kernel_rfl
  c51 := by kernel_rfl
  c53 := by kernel_rfl
  c75 := by kernel_rfl
  c76 := by kernel_rfl
  c80 := by kernel_rfl
  c85 := by kernel_rfl
  c127 := by kernel_rfl
  c143 := by kernel_rfl
  c145 := by kernel_rfl
  c167 := by kernel_rfl
  c168 := by kernel_rfl
  c171 := by kernel_rfl
  c173 := by kernel_rfl
  c175 := by kernel_rfl
  c210 := by kernel_rfl
  c212 := by kernel_rfl
  c213 := by kernel_rfl
  c232 := by kernel_rfl
  c233 := by kernel_rfl }
open Go.RowKit in
theorem Tryz.strconv_Atoi_ok (s : ByteArray) (hmax : s.size ≤ 9223372036854775806) (v : Int) (h : Lib.atoiAll s.data.toList = .ok v) (w : World) :
    Calls Tryz.prog 79 #[.string s] w fun e w' => e = .returned (.tuple #[.int .i64 v, .nilIface]) ∧ (w' = w ∨ ∃ t, w' = Lib.bytesWorld w 5 t) := Any.strconv_Atoi_ok Tryz.laysC172 s hmax v h w
open Go.RowKit in
theorem Tryz.strconv_Atoi_syntax (s : ByteArray) (hlim : s.size ≤ 281474976710656) (h : Lib.atoiAll s.data.toList = Lib.atoiAll []) (ev : Value) (w : World) (hv : w.cell? ⟨1, 0, none⟩ = some ev) (hev : ev = .nilIface ∨ ∃ te pe, ev = .iface te pe) :
    Calls Tryz.prog 79 #[.string s] w fun e w' => ∃ N, e = .returned (.tuple #[.int .i64 (0), .iface 134 (.pointer (some ⟨N, 0, none⟩))]) ∧ w.heap.size ≤ N ∧ w'.heap[N]? = some (.cells #[.string ⟨#[65, 116, 111, 105]⟩, .string s, ev] 158 (0, 0)) ∧ Below w.heap.size w w' := Any.strconv_Atoi_syntax Tryz.laysC172 s hlim h ev w hv hev
open Go.RowKit in
theorem Tryz.strconv_Atoi_range (s : ByteArray) (hlim : s.size ≤ 281474976710656) (h : Lib.atoiAll s.data.toList = .range) (ev : Value) (w : World) (hv : w.cell? ⟨2, 0, none⟩ = some ev) (hev : ev = .nilIface ∨ ∃ te pe, ev = .iface te pe) :
    Calls Tryz.prog 79 #[.string s] w fun e w' => ∃ N, e = .returned (.tuple #[.int .i64 (Lib.atoiSat s.data.toList), .iface 134 (.pointer (some ⟨N, 0, none⟩))]) ∧ w.heap.size ≤ N ∧ w'.heap[N]? = some (.cells #[.string ⟨#[65, 116, 111, 105]⟩, .string s, ev] 158 (0, 0)) ∧ Below w.heap.size w w' := Any.strconv_Atoi_range Tryz.laysC172 s hlim h ev w hv hev
def Tryz.lays145_ren : Go.Shelf.Ren := ⟨fun | 145 => 55 | 220 => 78 | 219 => 96 | 217 => 108 | 225 => 109 | 224 => 110 | 267 => 111 | 266 => 134 | 314 => 135 | n => n, fun | 9 => 9 | 4 => 4 | 59 => 79 | 3 => 3 | 5 => 5 | 46 => 117 | 146 => 152 | 51 => 151 | n => n, fun | 1 => 0 | n => n⟩
theorem Tryz.lays145 : Go.Proofs.Lays.n145 Tryz.prog Tryz.lays145_ren := {
  mixed := by kernel_rfl
  f145 := Tryz.func55.trans (congrArg some (by kernel_rfl))
  f217 := Tryz.func108.trans (congrArg some (by kernel_rfl))
  f219 := Tryz.func96.trans (congrArg some (by kernel_rfl))
  f220 := Tryz.func78.trans (congrArg some (by kernel_rfl))
  f224 := Tryz.func110.trans (congrArg some (by kernel_rfl))
  f225 := Tryz.func109.trans (congrArg some (by kernel_rfl))
  f266 := Tryz.func134.trans (congrArg some (by kernel_rfl))
  f267 := Tryz.func111.trans (congrArg some (by kernel_rfl))
  f314 := Tryz.func135.trans (congrArg some (by kernel_rfl))
  t3 := Tryz.underlying3
  a3 := Tryz.isAgg3
  z3 := Tryz.sizeOf3
  v3 := Tryz.zeroValue3
  t4 := Tryz.underlying4
  a4 := Tryz.isAgg4
  z4 := Tryz.sizeOf4
  v4 := Tryz.zeroValue4
  t5 := Tryz.underlying5
  a5 := Tryz.isAgg5
  z5 := Tryz.sizeOf5
  v5 := Tryz.zeroValue5
  t9 := Tryz.underlying9
  a9 := Tryz.isAgg9
  z9 := Tryz.sizeOf9
  v9 := Tryz.zeroValue9
  t46 := Tryz.underlying117
  a46 := Tryz.isAgg117
  z46 := Tryz.sizeOf117
  v46 := Tryz.zeroValue117
  t51 := Tryz.underlying151
  a51 := Tryz.isAgg151
  z51 := Tryz.sizeOf151
  v51 := Tryz.zeroValue151
  t59 := Tryz.underlying79
  a59 := Tryz.isAgg79
  z59 := Tryz.sizeOf79
  v59 := Tryz.zeroValue79
  t146 := Tryz.underlying152
  a146 := Tryz.isAgg152
  z146 := Tryz.sizeOf152
  v146 := Tryz.zeroValue152
  g1 := by kernel_rfl }
open Go.RowKit Go.Lib in
theorem Tryz.strings_Cut (s sep : ByteArray) (m : Int) (w : World) (hs : s.size < 4294967281) (hm : w.cell? ⟨0, 0, none⟩ = some (.int .i64 m)) :
    Calls Tryz.prog 55 #[.string s, .string sep] w fun e w' => e = .returned (.tuple #[.string ⟨(Lib.cut s.data.toList sep.data.toList).1.toArray⟩, .string ⟨(Lib.cut s.data.toList sep.data.toList).2.1.toArray⟩, .bool (Lib.cut s.data.toList sep.data.toList).2.2]) ∧ ∃ n, w' = w.drewN n := Any.strings_Cut Tryz.lays145 s sep m w hs hm
def Tryz.lays146_ren : Go.Shelf.Ren := ⟨fun | 146 => 54 | 221 => 77 | 268 => 93 | 138 => 94 | 143 => 95 | 195 => 105 | 197 => 106 | 218 => 107 | 219 => 96 | 260 => 133 | 217 => 108 | 225 => 109 | 224 => 110 | 267 => 111 | 266 => 134 | 314 => 135 | n => n, fun | 9 => 9 | 31 => 77 | 3 => 3 | 4 => 4 | 0 => 0 | 105 => 127 | 21 => 21 | 5 => 5 | 46 => 117 | 119 => 169 | 139 => 172 | 138 => 171 | 146 => 152 | 51 => 151 | n => n, fun | 1 => 0 | 3 => 4 | 4 => 5 | n => n⟩
theorem Tryz.lays146 : Go.Proofs.Lays.n146 Tryz.prog Tryz.lays146_ren := {
  mixed := by kernel_rfl
  f138 := Tryz.func94.trans (congrArg some (by kernel_rfl))
  f143 := Tryz.func95.trans (congrArg some (by kernel_rfl))
  f146 := Tryz.func54.trans (congrArg some (by kernel_rfl))
  f195 := Tryz.func105.trans (congrArg some (by kernel_rfl))
  f197 := Tryz.func106.trans (congrArg some (by kernel_rfl))
  f217 := Tryz.func108.trans (congrArg some (by kernel_rfl))
  f218 := Tryz.func107.trans (congrArg some (by kernel_rfl))
  f219 := Tryz.func96.trans (congrArg some (by kernel_rfl))
  f221 := Tryz.func77.trans (congrArg some (by kernel_rfl))
  f224 := Tryz.func110.trans (congrArg some (by kernel_rfl))
  f225 := Tryz.func109.trans (congrArg some (by kernel_rfl))
  f260 := Tryz.func133.trans (congrArg some (by kernel_rfl))
  f266 := Tryz.func134.trans (congrArg some (by kernel_rfl))
  f267 := Tryz.func111.trans (congrArg some (by kernel_rfl))
  f268 := Tryz.func93.trans (congrArg some (by kernel_rfl))
  f314 := Tryz.func135.trans (congrArg some (by kernel_rfl))
  t0 := Tryz.underlying0
  a0 := Tryz.isAgg0
  z0 := Tryz.sizeOf0
  v0 := Tryz.zeroValue0
  t3 := Tryz.underlying3
  a3 := Tryz.isAgg3
  z3 := Tryz.sizeOf3
  v3 := Tryz.zeroValue3
  t4 := Tryz.underlying4
  a4 := Tryz.isAgg4
  z4 := Tryz.sizeOf4
  v4 := Tryz.zeroValue4
  t5 := Tryz.underlying5
  a5 := Tryz.isAgg5
  z5 := Tryz.sizeOf5
  v5 := Tryz.zeroValue5
  t9 := Tryz.underlying9
  a9 := Tryz.isAgg9
  z9 := Tryz.sizeOf9
  v9 := Tryz.zeroValue9
  t21 := Tryz.underlying21
  a21 := Tryz.isAgg21
  z21 := Tryz.sizeOf21
  v21 := Tryz.zeroValue21
  t31 := Tryz.underlying77
  a31 := Tryz.isAgg77
  z31 := Tryz.sizeOf77
  v31 := Tryz.zeroValue77
  t46 := Tryz.underlying117
  a46 := Tryz.isAgg117
  z46 := Tryz.sizeOf117
  v46 := Tryz.zeroValue117
  t51 := Tryz.underlying151
  a51 := Tryz.isAgg151
  z51 := Tryz.sizeOf151
  v51 := Tryz.zeroValue151
  t105 := Tryz.underlying127
  a105 := Tryz.isAgg127
  z105 := Tryz.sizeOf127
  v105 := Tryz.zeroValue127
  t119 := Tryz.underlying169
  a119 := Tryz.isAgg169
  z119 := Tryz.sizeOf169
  t138 := Tryz.underlying171
  a138 := Tryz.isAgg171
  z138 := Tryz.sizeOf171
  v138 := Tryz.zeroValue171
  t139 := Tryz.underlying172
  a139 := Tryz.isAgg172
  z139 := Tryz.sizeOf172
  v139 := Tryz.zeroValue172
  t146 := Tryz.underlying152
  a146 := Tryz.isAgg152
  z146 := Tryz.sizeOf152
  v146 := Tryz.zeroValue152
  g1 := by kernel_rfl
  g3 := by kernel_rfl
  g4 := by kernel_rfl }
open Go.RowKit Go.Lib in
theorem Tryz.strings_Split (s sep : ByteArray) (m : Int) (w : World) (hs : s.size < 4294967281) (hm : w.cell? ⟨0, 0, none⟩ = some (.int .i64 m)) (h1 : 1 ≤ sep.size) :
    Calls Tryz.prog 54 #[.string s, .string sep] w fun e w' =>
      e = .returned (.slice (some ⟨w.heap.size, 0, none⟩) (Lib.countB s sep + 1) (Lib.countB s sep + 1)) ∧ w' = w.alloc (.cells ((Lib.splitB sep 0 (Lib.countB s sep) s).map Value.string).toArray 9) := Any.strings_Split Tryz.lays146 (by kernel_rfl) s sep m w hs hm h1
end Go.Proofs

namespace Go.Proofs.YtoaaieiiamdopaaGreatDoor
open Go.Shelf Go.RowKit Go.Sort Go.Lib Go.Eng
set_option linter.unusedVariables false
set_option linter.unusedSimpArgs false
def itoaS (n : Int) : ByteArray := ⟨(Lib.itoa n).toArray⟩
def decS (n : Nat) : ByteArray := ⟨(Lib.decDigits n).toArray⟩
theorem itoaS_nat (n : Nat) : itoaS (n : Int) = decS n := by unfold itoaS decS; rw [Lib.itoa_nonneg]

theorem tabPow {E : Env} {w : World} (h : GlobOk E w) : Lib.TabIs Tryz.prog w "internal/strconv.uint64pow10" .u64 Lib.pow10Tab :=
  glob_tab (g := 3) h (by kernel_rfl) (List.mem_cons_self ..) (fun a ha => by rw [ha]; simp [Lib.pow10Tab, Function.comp_def])

@[reducible] def itoaC : Ctr := {
  X := Int
  Y := Unit
  args := fun n => [.v (.int .i64 n)]
  rw := fun _ => []
  side := fun n => -9223372036854775808 ≤ n ∧ n ≤ 9223372036854775807
  val := fun _ => ()
  ens := fun _ _ => True
  res := fun n _ => .v (.string (itoaS n))
  out := fun _ _ => [] }
theorem itoa_ok : itoaC.ok Tryz.prog 60 := by
  refine ok_of_walk (fun _ => rfl) (fun _ => rfl) (fun n hs => ⟨trivial, fun E w vals hsz hv hg hI => ?_⟩)
  rw [vals_one hsz, sat_v (hv 0 _ rfl)]
  refine (Tryz.strconv_Itoa n hs.1 hs.2 w (tabPow hg)).mono ?_
  rintro e w' ⟨rfl, k, os, rfl⟩
  exact ⟨_, rfl, .v _, below_grow w k os, fun h => h.elim⟩
end Go.Proofs.YtoaaieiiamdopaaGreatDoor
