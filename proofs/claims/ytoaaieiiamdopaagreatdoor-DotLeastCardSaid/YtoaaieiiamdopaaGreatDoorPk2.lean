/- Parts of the proof, one behind the other (EngE, EngF). -/
import Derived.Test.YtoaaieiiamdopaaGreatDoorPk1
import Derived.Laws.BytesArg
set_option linter.unusedVariables false
set_option linter.unusedSimpArgs false
set_option linter.unusedSectionVars false
/-! The engine, part E: the conditions that it asks of a text of code ('vc'). Definitions alone. -/
set_option linter.unusedVariables false
namespace Go.Eng
variable [DM]
set_option linter.unusedSectionVars false

/-- A contract of a function. Names below 1000 in 'args', 'rw'; new names in 'out' from 1000 on. What is only read comes as '.rop true ..', '.ro true ..'. -/
structure Ctr where
  X : Type
  Y : Type
  args : X → List SV
  rw : X → En
  side : X → Prop
  val : X → Y
  ens : X → Y → Prop
  res : X → Y → SV
  out : X → Y → En

/-- A loop's invariant. -/
structure LA where
  X : Type
  pre : X → Prop
  mu : X → Nat
  T : X → Tm
  M : X → En

/-- A range over a function, as its caller sees it: the temporaries (T) stand still; what is lent to the rounds, by the number of rounds made (M); what stays behind (R); the names that keep their meaning (rg);
how many rounds there can be (n), what they are given (args); whether one goes on (goes), and how one leaves that does not (jump). -/
structure RA where
  X : Type
  T : X → Tm
  M : X → Nat → En
  R : X → En
  rg : List Nat
  n : X → Nat
  args : X → Nat → List SV
  goes : X → Nat → Bool
  jump : X → Nat → Exit

inductive AN where
  | loop (L : LA)
  | range (R : RA)

structure Two (A B : Prop) : Prop where mk ::
  l : A
  r : B
structure Fork (b : Bool) (A B : Prop) : Prop where mk ::
  t : b = true → A
  f : b = false → B
structure ForkP (p : Bool → Prop) (A B : Prop) : Prop where mk ::
  t : p true → A
  f : p false → B
structure Ar (k : IntKind) (n : Int) (K : Int → Prop) : Prop where wrap ::
  h : K (k.wrap n)
structure Race (b : Bool) (K : Prop) : Prop where mk ::
  e : b = true
  h : K
structure Eqn {α : Type} (a b : α) (K : Prop) : Prop where mk ::
  e : a = b
  h : K
structure Ask (p : Prop) (K : Prop) : Prop where mk ::
  e : p
  h : K
def conj : List Prop → Prop
  | [] => True
  | [p] => p
  | p :: l => conj l ∧ p
structure AskL (q : List Prop) (K : Prop) : Prop where mk ::
  e : conj q
  h : K
inductive Some' {α : Type} (K : α → Prop) : Prop where
  | mk (x : α) (h : K x)
structure All' {α : Type} (p : α → Prop) (K : α → Prop) : Prop where mk ::
  h : ∀ x, p x → K x
/-- The same, of an invariant: a name is to be chosen. -/
structure AllI {α : Type} (p : α → Prop) (K : α → Prop) : Prop where mk ::
  h : ∀ x, p x → K x
theorem Ar.fit {k : IntKind} {n : Int} {K : Int → Prop} (e : k.wrap n = n) (h : K n) : Ar k n K := ⟨by rw [e]; exact h⟩

theorem wrap_i64 {n : Int} (h0 : -9223372036854775808 ≤ n) (h1 : n ≤ 9223372036854775807) : IntKind.i64.wrap n = n := by
  simp only [IntKind.wrap, IntKind.bits, IntKind.signed, Bool.true_and]
  split <;> rename_i h <;> simp at h <;> omega
theorem wrap_u64 {n : Int} (h0 : 0 ≤ n) (h1 : n ≤ 18446744073709551615) : IntKind.u64.wrap n = n := by
  simp only [IntKind.wrap, IntKind.bits, IntKind.signed, Bool.false_and]
  simp only [Bool.false_eq_true, if_false]
  omega
theorem wrap_u8 {n : Int} (h0 : 0 ≤ n) (h1 : n ≤ 255) : IntKind.u8.wrap n = n := by
  simp only [IntKind.wrap, IntKind.bits, IntKind.signed, Bool.false_and]
  simp only [Bool.false_eq_true, if_false]
  omega

def nth : List SV → Nat → Option SV
  | [], _ => none
  | x :: _, 0 => some x
  | _ :: l, n + 1 => nth l n
def setN : List SV → Nat → SV → Option (List SV)
  | [], _, _ => none
  | _ :: l, 0, y => some (y :: l)
  | x :: l, n + 1, y => match setN l n y with | some l' => some (x :: l') | none => none
def setAll : List SV → Nat → List SV → Option (List SV)
  | cs, _, [] => some cs
  | cs, o, y :: ys => match setN cs o y with | some cs' => setAll cs' (o + 1) ys | none => none
/-- n of them from o on. -/
def cutS : List SV → (o n : Nat) → Option (List SV)
  | _, _, 0 => some []
  | [], _, _ + 1 => none
  | x :: l, 0, n + 1 => match cutS l 0 n with | some l' => some (x :: l') | none => none
  | _ :: l, o + 1, n + 1 => cutS l o (n + 1)

def evC : Value → SV
  | .agg cs => .agg (cs.toList.map .v)
  | v => .v v
def ev (T : Tm) : Operand → SV
  | .tmp t => look T t
  | .const v => evC v
  | .global g => .v (.pointer (some ⟨g, 0, none⟩))
  | .func f => .func (.func f) [] []

def force (s : SV) (K : SV → Prop) : Prop := match s with
  | .v x => K (.v x)
  | .any => K .any
  | .ptr i o => K (.ptr i o)
  | .elp i z x o => K (.elp i z x o)
  | .rop b c o => K (.rop b c o)
  | .sl i => K (.sl i)
  | .slc i o l c => K (.slc i o l c)
  | .slv i z l n => K (.slv i z l n)
  | .ro b t xs => K (.ro b t xs)
  | .agg l => K (.agg l)
  | .tuple l => K (.tuple l)
  | .func f a c => K (.func f a c)
  | .unkB p => K (.unkB p)

/-- One cell's. -/
def scalB : SV → Bool
  | .any => false
  | .agg _ => false
  | .tuple _ => false
  | .v (.agg _) => false
  | .v (.tuple _) => false
  | _ => true
def allScal : List SV → Bool
  | [] => true
  | s :: l => match scalB s with | true => allScal l | false => false
/-- A value's cells. -/
def svCells : SV → Option (List SV)
  | .agg l => match allScal l with | true => some l | false => none
  | .any => none
  | .tuple _ => none
  | .v (.agg _) => none
  | .v (.tuple _) => none
  | s => some [s]

/-- A part of a row of cells, as a value of its type. -/
def partV (P : Program) (t : TypeId) (cs : List SV) (o : Nat) (K : SV → Prop) : Prop :=
  match aggOf P t with
  | some true => match szOf P t with
    | some n => match cutS cs o n with | some l => K (.agg l) | none => False
    | none => False
  | some false => match nth cs o with | some s => force s K | none => False
  | none => False

def eqK : IntKind → IntKind → Bool
  | .i8, .i8 | .i16, .i16 | .i32, .i32 | .i64, .i64 | .u8, .u8 | .u16, .u16 | .u32, .u32 | .u64, .u64 => true
  | _, _ => false

def isPtrT (P : Program) (t : TypeId) : Bool := match P.underlying t with | some (.pointer _) => true | _ => false
def isFuncT (P : Program) (t : TypeId) : Bool := match P.underlying t with | some (.func _ _ _) => true | _ => false
def isSliceT (P : Program) (t : TypeId) : Bool := match P.underlying t with | some (.slice _) => true | _ => false

/-- What needs no memory: the model's own reckoning. -/
def plain2 (P : Program) (s : Sem Value) (K : SV → Prop) : Prop := match pureP P s with
  | some v => K (evC v)
  | none => False

def cmpV (op : BinOp) (a b : Int) (K : SV → Prop) : Prop := match op with
  | .eql => K (.v (.bool (a == b)))
  | .neq => K (.v (.bool (a != b)))
  | .lss => K (.v (.bool (decide (a < b))))
  | .leq => K (.v (.bool (decide (a ≤ b))))
  | .gtr => K (.v (.bool (decide (a > b))))
  | .geq => K (.v (.bool (decide (a ≥ b))))
  | _ => False

def intV (P : Program) (op : BinOp) (k : IntKind) (a b : Int) (t : TypeId) (K : SV → Prop) : Prop := match op with
  | .add => Ar k (a + b) fun m => K (.v (.int k m))
  | .sub => Ar k (a - b) fun m => K (.v (.int k m))
  | .mul => Ar k (a * b) fun m => K (.v (.int k m))
  | .quo => Ask (b ≠ 0) (Ar k (a.tdiv b) fun m => K (.v (.int k m)))
  | .rem => Ask (b ≠ 0) (K (.v (.int k (a.tmod b))))
  | .and => plain2 P (Op.intBits .and k a b) K
  | .or => plain2 P (Op.intBits .or k a b) K
  | .xor => plain2 P (Op.intBits .xor k a b) K
  | .andNot => plain2 P (Op.intBits .andNot k a b) K
  | op => cmpV op a b K

def shiftV (op : BinOp) (k : IntKind) (a b : Int) (K : SV → Prop) : Prop := match op with
  | .shl => Ask (0 ≤ b) (Ar k (a * 2 ^ (min b.toNat k.bits)) fun m => K (.v (.int k m)))
  | .shr => Ask (0 ≤ b) (K (.v (.int k (a.fdiv (2 ^ (min b.toNat k.bits))))))
  | _ => False

def strV (op : BinOp) (a b : ByteArray) (K : SV → Prop) : Prop := match op with
  | .add => Ask ((a.size + b.size : Nat) ≤ 9223372036854775807) (K (.v (.string (a ++ b))))
  | .eql => K (.v (.bool (a.toList == b.toList)))
  | .neq => K (.v (.bool (!(a.toList == b.toList))))
  | .lss => K (.v (.bool (Op.bytesLess a.toList b.toList)))
  | .leq => K (.v (.bool (Op.bytesLess a.toList b.toList || a.toList == b.toList)))
  | .gtr => K (.v (.bool (!(Op.bytesLess a.toList b.toList || a.toList == b.toList))))
  | .geq => K (.v (.bool (!(Op.bytesLess a.toList b.toList))))
  | _ => False

def notIf (op : BinOp) (b : Bool) : Option Bool := match op with | .eql => some b | .neq => some (!b) | _ => none

/-- Is it nil? Not: a pointer, a function. -/
def notNil (op : BinOp) (c : Bool) (K : SV → Prop) : Prop := match c with
  | true => match op with
    | .eql => K (.v (.bool false))
    | .neq => K (.v (.bool true))
    | _ => False
  | false => False

def binV (P : Program) (op : BinOp) (t : TypeId) (x y : SV) (M : En) (K : SV → List Nat → Prop) : Prop :=
  match x with
  | .v a => match y with
    | .v b => match a with
      | .int k m => match b with
        | .int k' n => match op with
          | .shl => shiftV .shl k m n fun s => K s []
          | .shr => shiftV .shr k m n fun s => K s []
          | op => match eqK k k' with
            | true => intV P op k m n t fun s => K s []
            | false => False
        | _ => False
      | .string s => match b with
        | .string u => strV op s u fun s => K s []
        | _ => False
      | .agg _ => False
      | .nilIface => False
      | a => match op with
        | .eql => plain2 P (binOp .eql t a b) fun s => K s []
        | .neq => plain2 P (binOp .neq t a b) fun s => K s []
        | _ => False
    | _ => False
  | .ptr _ _ => match y with | .v (.pointer none) => notNil op (isPtrT P t) fun s => K s [] | _ => False
  | .elp _ _ _ _ => match y with | .v (.pointer none) => notNil op (isPtrT P t) fun s => K s [] | _ => False
  | .rop _ _ _ => match y with | .v (.pointer none) => notNil op (isPtrT P t) fun s => K s [] | _ => False
  | .func _ _ _ => match y with | .v .nilFunc => notNil op (isFuncT P t) fun s => K s [] | _ => False
  | _ => False

/-! ### Contracts at a call -/

abbrev Mp := List (Nat × Nat)
def mlook : Mp → Nat → Option Nat
  | [], _ => none
  | (j, i) :: m, k => match Nat.beq j k with | true => some i | false => mlook m k

/-- j of the target's is i of the source's. -/
def bindM (j i : Nat) (m : Mp) (K : Mp → Prop) : Prop := match nilB j with
  | true => False
  | false => match mlook m j with
    | some i' => match Nat.beq i' i with | true => K m | false => False
    | none => K ((j, i) :: m)
def nilC : Mp → Nat
  | [] => 0
  | (_, i) :: m => match nilB i with | true => nilC m + 1 | false => nilC m
/-- j of the target's is a nil slice. -/
def nilM (j : Nat) (m : Mp) (K : Mp → Prop) : Prop := match nilB j with
  | true => False
  | false => match mlook m j with
    | some i => match nilB i with | true => K m | false => False
    | none => match nilB (1984 + nilC m) with | true => K ((j, 1984 + nilC m) :: m) | false => False

def allLt (n : Nat) : Mp → Bool
  | [] => true
  | (j, _) :: m => match Nat.blt j n with | true => allLt n m | false => false
def nodupB : List Nat → Bool
  | [] => true
  | i :: l => match memB i l with | true => false | false => nodupB l
def imgs (m : Mp) : List Nat → List Nat
  | [] => []
  | j :: l => match mlook m j with | some i => i :: imgs m l | none => imgs m l

def eqV (x y : Value) (q : List Prop) (K : List Prop → Prop) : Prop := match x with
  | .int k a => match y with
    | .int k' b => match eqK k k' with | true => K ((a = b) :: q) | false => False
    | _ => False
  | .bool a => match y with | .bool b => K ((a = b) :: q) | _ => False
  | .string a => match y with | .string b => K ((a = b) :: q) | _ => False
  | x => K ((x = y) :: q)

/-- What a comparison carries along: the names; the rows that are lent; those that are given up; the equations. -/
abbrev MK := Mp → List Nat → List Nat → List Prop → Prop

/-- The nil slice. -/
def nilV (y : Value) (A : Prop) : Prop := match y with
  | .slice none 0 0 => A
  | _ => False

mutual
/-- The source's value serves as the target's. -/
def matSV (M : En) : Nat → (tgt src : SV) → Mp → List Nat → List Nat → List Prop → MK → Prop
  | 0, _, _, _, _, _, _, _ => False
  | n + 1, tgt, src, m, bs, fs, q, K => match tgt with
    | .any => K m bs fs q
    | .v x => match src with | .v y => eqV y x q (K m bs fs) | _ => False
    | .ptr j o => match src with | .ptr i o' => (match Nat.beq o o' with | true => bindM j i m fun m => K m bs fs q | false => False) | _ => False
    | .sl j => match src with | .sl i => bindM j i m fun m => K m bs fs q | .v y => nilV y (nilM j m fun m => K m bs fs q) | _ => False
    | .ro b t xs => match src with
      | .ro b' t' ys => (match b' && !b with | true => False | false => K m bs fs ((SV.ro true t' ys = SV.ro true t xs) :: q))
      | .v y => nilV y (K m bs fs ((SV.ro true t [] = SV.ro true t xs) :: q))
      | .sl i => match find M i with
        | .row _ t' ys => (match b with | true => K m (i :: bs) fs ((SV.ro true t' ys = SV.ro true t xs) :: q) | false => K m bs (i :: fs) ((SV.ro true t' ys = SV.ro true t xs) :: q))
        | _ => False
      | .slc i o l c => match find M i with
        | .cells _ cs => match (match Nat.ble l c with | true => cutS cs o (l * t.size) | false => none) with
          | some l' => matL M n (flatF (enc t) xs) l' m bs fs ((xs.length = l) :: q) fun m bs fs q => match b with | true => K m (i :: bs) fs q | false => K m bs (i :: fs) q
          | none => False
        | _ => False
      | _ => False
    | .slc j o l c => match src with
      | .slc i o' l' c' => (match Nat.beq o o' && Nat.beq l l' && Nat.beq c c' with | true => bindM j i m fun m => K m bs fs q | false => False)
      | _ => False
    | .slv j z l n => match src with
      | .slv i z' l' n' => (match Nat.beq z z' with | true => bindM j i m fun m => K m bs fs ((l' = l) :: (n' = n) :: q) | false => False)
      | _ => False
    | .agg l => match src with | .agg l' => matL M n l l' m bs fs q K | _ => False
    | .tuple l => match src with | .tuple l' => matL M n l l' m bs fs q K | _ => False
    | .func (.func f) a c => match src with
      | .func (.func f') a' c' => (match Nat.beq f f' with | true => matL M n a a' m bs fs q fun m bs fs q => matL M n c c' m bs fs q K | false => False)
      | _ => False
    | .rop b cs o => match src with
      | .rop b' cs' o' => (match b' && !b with | true => False | false => match Nat.beq o o' with | true => matL M n cs cs' m bs fs q K | false => False)
      | .ptr i off => match o with
        | 0 => match find M i with
          | .cells _ cs' => match cutS cs' off cs.length with
            | some l' => matL M n cs l' m bs fs q fun m bs fs q => match b with | true => K m (i :: bs) fs q | false => K m bs (i :: fs) q
            | none => False
          | _ => False
        | _ + 1 => False
      | _ => False
    | _ => False
def matL (M : En) : Nat → (tgt src : List SV) → Mp → List Nat → List Nat → List Prop → MK → Prop
  | 0, _, _, _, _, _, _, _ => False
  | n + 1, tgt, src, m, bs, fs, q, K => match tgt with
    | [] => match src with | [] => K m bs fs q | _ :: _ => False
    | x :: l => match src with | y :: l' => matSV M n x y m bs fs q fun m bs fs q => matL M n l l' m bs fs q K | [] => False
end

def matEnt (M : En) (tgt src : Ent) (m : Mp) (bs fs : List Nat) (q : List Prop) (K : MK) : Prop :=
  match tgt with
  | .gone => K m bs fs q
  | .cells t cs => match src with
    | .cells t' cs' => (match Nat.beq t t' with | true => matL M 200 cs cs' m bs fs q K | false => False)
    | _ => False
  | .row e t xs => match src with
    | .row e' t' ys => (match Nat.beq e e' with | true => K m bs fs ((SV.ro true t' ys = SV.ro true t xs) :: q) | false => False)
    | _ => False
  | .siter s p => match src with | .siter s' p' => K m bs fs ((s' = s) :: (p' = p) :: q) | _ => False
  | .res F A => match src with | .res F' B => K m bs fs ((B = A) :: (F' = F) :: q) | _ => False

/-- The source's entry; that of a nil slice is an empty row. -/
def srcE (M : En) (i : Nat) (e : Ent) : Ent := match nilB i with
  | true => match find M i with
    | .gone => match e with | .row te t _ => .row te t [] | _ => .gone
    | x => x
  | false => find M i

def firstRes (M : En) : En → Option Nat
  | [] => none
  | (i, _) :: l => match find M i with | .res _ _ => some i | _ => firstRes M l
/-- An entry of the kind 'res' needs no name. -/
def resM (M : En) (e : Ent) (j : Nat) (m : Mp) : Mp := match e with
  | .res _ _ => match mlook m j with
    | some _ => m
    | none => match firstRes M M with | some i => (j, i) :: m | none => m
  | _ => m
/-- Each of the target's entries is one of the source's of its own. -/
def matE (M : En) : (tgt : En) → Mp → List Nat → List Nat → List Prop → (used : List Nat) → (Mp → List Nat → List Nat → List Prop → List Nat → Prop) → Prop
  | [], m, bs, fs, q, us, K => K m bs fs q us
  | (j, e) :: l, m, bs, fs, q, us, K => match mlook (resM M e j m) j with
    | none => False
    | some i => match memB i us with
      | true => False
      | false => match nilB j with
        | true => False
        | false => matEnt M e (srcE M i e) (resM M e j m) bs fs q fun m bs fs q => matE M l m bs fs q (i :: us) K

/-- New names for what a call hands back. -/
def extM (m : Mp) (lo : Nat) : List Nat → Mp
  | [] => m
  | j :: l => match mlook m j with | some _ => extM m lo l | none => extM ((j, lo) :: m) (lo + 1) l

mutual
def renS (bb : Bool) : Nat → Mp → SV → (SV → Prop) → Prop
  | 0, _, _, _ => False
  | n + 1, m, s, K => match s with
    | .v x => K (.v x)
    | .any => K .any
    | .ptr j o => match mlook m j with | some i => K (.ptr i o) | none => False
    | .elp j z x o => match mlook m j with | some i => K (.elp i z x o) | none => False
    | .sl j => match mlook m j with | some i => K (.sl i) | none => False
    | .slc j o l c => match mlook m j with | some i => K (.slc i o l c) | none => False
    | .slv j z l n => match mlook m j with | some i => K (.slv i z l n) | none => False
    | .ro b t xs => (match b && !bb with | true => False | false => K (.ro b t xs))
    | .agg l => renL bb n m l fun l => K (.agg l)
    | .tuple l => renL bb n m l fun l => K (.tuple l)
    | .func f a c => renL bb n m a fun a => renL bb n m c fun c => K (.func f a c)
    | .rop b cs o => (match b && !bb with | true => False | false => renL bb n m cs fun cs => K (.rop b cs o))
    | .unkB p => K (.unkB p)
def renL (bb : Bool) : Nat → Mp → List SV → (List SV → Prop) → Prop
  | 0, _, _, _ => False
  | n + 1, m, l, K => match l with
    | [] => K []
    | x :: l => renS bb n m x fun x => renL bb n m l fun l => K (x :: l)
end

def renEnt (bb : Bool) (m : Mp) (e : Ent) (K : Ent → Prop) : Prop := match e with
  | .gone => K .gone
  | .cells t cs => renL bb 200 m cs fun cs => K (.cells t cs)
  | .row e t xs => K (.row e t xs)
  | .siter s p => K (.siter s p)
  | .res F A => K (.res F A)

def renE (bb : Bool) (m : Mp) : En → (En → Prop) → Prop
  | [], K => K []
  | (j, e) :: l, K => match mlook m j with
    | some i => renEnt bb m e fun e => renE bb m l fun l => K ((i, e) :: l)
    | none => False

/-- What is lent and comes back leans on what it leant on. -/
def resQ (m : Mp) (M : En) (us : List Nat) : En → Option (List Prop)
  | [] => some []
  | (j, e) :: l => match e with
    | .res F _ => match mlook m j with
      | some i => match memB i us with
        | true => match find M i with
          | .res F0 _ => match resQ m M us l with | some q => some ((F0 = F) :: q) | none => none
          | _ => none
        | false => none
      | none => none
    | _ => resQ m M us l
def AskR (q : List Prop) (K : Prop) : Prop := match q with
  | [] => K
  | p :: l => AskL (p :: l) K

def nullB : List Nat → Bool
  | [] => true
  | _ :: _ => false
def CallB (C : Ctr) (args : List SV) (M : En) (lo : Nat) (Kg : SV → List Nat → List Nat → En → Prop) (x : C.X) : Prop :=
  matL M 200 (C.args x) args [] [] [] [] fun m bs fs q =>
    matE M (C.rw x) m bs fs q [] fun m bs fs q us =>
      match anyB bs us || anyB fs us || anyB fs bs || !allLt 1000 m with
      | true => False
      | false => AskL q (Ask (C.side x) (All' (fun y => y = C.val x ∧ C.ens x y) fun y => match Nat.ble (keys (C.out x y)).length 16 && nodupB (keys (C.out x y)) with
          | true => match resQ m M us (C.out x y) with
            | some q' => AskR q' (renS (nullB bs) 200 (extM m lo (keys (C.out x y))) (C.res x y) fun out =>
              renE (nullB bs) (extM m lo (keys (C.out x y))) (C.out x y) fun eo => match nodupB (keys eo) && !anyB (keys eo) bs with
                | true => Kg out (us ++ fs ++ bs) (us ++ fs) eo
                | false => False)
            | none => False
          | false => False))

inductive CallP (C : Ctr) (args : List SV) (M : En) (lo : Nat) (Kg : SV → List Nat → List Nat → En → Prop) : Prop where
  | mk (x : C.X) (h : CallB C args M lo Kg x)

/-! ### yield -/

/-- Who ranges over a function, as the function sees it: what the calls are given; does he go on behind a call; may he be called; the blocks that he leans on; his state ahead of a call. -/
structure Yld where
  args : Nat → List SV
  goes : Nat → Bool
  live : Nat → Bool
  F : Nat → Prop
  S : Nat → (Nat → Prop) → (Nat → Prop) → World → Prop

def bareE (I : Nat → Prop) : Env := ⟨fun j => match nilB j with | true => some nilSlot | false => none, I, fun _ => False⟩

/-- He keeps his word. -/
structure YOk (P : Program) (l : Nat) (Y : Yld) : Prop where
  stay : ∀ k J fp w w', Y.S k J fp w → w.heap.size ≤ w'.heap.size → (∀ b, fp b ∨ Y.F b ∨ J b → w'.heap[b]? = w.heap[b]?) → Y.S k J fp w'
  law : ∀ (k : Nat) (J fp I : Nat → Prop) (w : World) (vals : Array Value), Y.live k = true → Y.S k J fp w → (∀ b, I b → b < w.heap.size ∧ ¬ fp b) → (∀ b, J b → I b) → (∀ b, Y.F b → b < w.heap.size ∧ ¬ fp b) → (∀ b, fp b → b < w.heap.size) →
    vals.size = (Y.args k).length → (∀ (j : Nat) (s : SV), (Y.args k)[j]? = some s → Sat (bareE I) w s (vals.getD j undef)) →
    ∃ fn tmps as body, (Instr.yield l vals).run P w = .ok (.round l fn tmps as body) w ∧
      RoundIn (fence none) 0 P l fn tmps as body w fun e w' => e = .returned (.bool (Y.goes k)) ∧ ∃ J' fp', Y.S (k + 1) J' fp' w' ∧ Keep fp w w' ∧ (∀ b, J' b → I b) ∧
        (∀ b, fp' b → fp b ∨ w.heap.size ≤ b) ∧ ∀ b, fp' b → b < w'.heap.size

def own1 : SV → Bool
  | .v _ => true
  | .ro b _ _ => !b
  | _ => false
def allOwn1 : List SV → Bool
  | [] => true
  | s :: l => match own1 s with | true => allOwn1 l | false => false
def ownB : SV → Bool
  | .agg l => allOwn1 l
  | s => own1 s
def allOwn : List SV → Bool
  | [] => true
  | s :: l => match ownB s with | true => allOwn l | false => false

/-- A call of yield. -/
def YieldB (P : Program) (l : Nat) (args : List SV) (M : En) (Kg : SV → List Nat → List Nat → En → Prop) (Y : Yld) (k i : Nat) (as : List SV) : Prop := match find M i with
  | .res F A => Ask (YOk P l Y ∧ Y.live k = true ∧ F = Y.F ∧ A = Y.S k) (matL M 200 as args [] [] [] [] fun m bs fs q => match m, bs with
    | [], [] => match allOwn as && !memB i fs with
      | true => AskL q (Kg (.v (.bool (Y.goes k))) (i :: fs) (i :: fs) [(i, .res Y.F (Y.S (k + 1)))])
      | false => False
    | _, _ => False)
  | _ => False
inductive YieldP (P : Program) (l : Nat) (args : List SV) (M : En) (Kg : SV → List Nat → List Nat → En → Prop) : Prop where
  | mk (Y : Yld) (k i : Nat) (as : List SV) (e : Y.args k = as) (h : YieldB P l args M Kg Y k i as)

/-! ### Built-in functions -/

def bltV (P : Program) (b : Builtin) (types : List TypeId) (args : List SV) (M : En) (Kp : SV → List Nat → Prop) : Prop := match b with
  | .len => match args, types with
    | [.v (.string s)], [t] => (match P.underlying t with | some .string => Kp (.v (.int .i64 s.size)) [] | _ => False)
    | [.ro _ _ xs], [t] => (match isSliceT P t with | true => Kp (.v (.int .i64 xs.length)) [] | false => False)
    | [.slc _ _ n _], [t] => (match isSliceT P t with | true => Kp (.v (.int .i64 n)) [] | false => False)
    | [.slv _ _ _ n], [t] => (match isSliceT P t with | true => Kp (.v (.int .i64 n)) [] | false => False)
    | [.v (.slice none 0 0)], [t] => (match isSliceT P t with | true => Kp (.v (.int .i64 0)) [] | false => False)
    | [.sl i], [t] => (match isSliceT P t with
      | true => (match find M i with | .row _ _ xs => Kp (.v (.int .i64 xs.length)) [i] | _ => False)
      | false => False)
    | _, _ => False
  | .max => match args with
    | [.v (.int k a), .v (.int _ b)] => Kp (.v (.int k (max a b))) []
    | [.v (.int k a), .v (.int _ b), .v (.int _ c)] => Kp (.v (.int k (max (max a b) c))) []
    | _ => False
  | .min => match args with
    | [.v (.int k a), .v (.int _ b)] => Kp (.v (.int k (min a b))) []
    | [.v (.int k a), .v (.int _ b), .v (.int _ c)] => Kp (.v (.int k (min (min a b) c))) []
    | _ => False
  | .cap => match args, types with
    | [.v (.slice none 0 0)], [t] => (match isSliceT P t with | true => Kp (.v (.int .i64 0)) [] | false => False)
    | _, _ => False
  | _ => False

/-! ### append -/

def eqTy : (a b : Ty) → Option (PLift (a = b))
  | .int k, .int k' => if h : k = k' then some ⟨by rw [h]⟩ else none
  | .bool, .bool => some ⟨rfl⟩
  | .str, .str => some ⟨rfl⟩
  | .unit, .unit => some ⟨rfl⟩
  | .sl a, .sl b => match eqTy a b with | some h => some ⟨by rw [h.down]⟩ | none => none
  | .pair a b, .pair c d => match eqTy a c with
    | some h => match eqTy b d with | some h' => some ⟨by rw [h.down, h'.down]⟩ | none => none
    | none => none
  | .arr n a, .arr m b => if h : n = m then (match eqTy a b with | some h' => some ⟨by rw [h, h'.down]⟩ | none => none) else none
  | _, _ => none

mutual
/-- The code of a type of the program's. -/
def tyOf (P : Program) : Nat → TypeId → Option Ty
  | 0, _ => none
  | n + 1, t => match P.underlying t with
    | some (.int k) => some (.int k)
    | some .bool => some .bool
    | some .string => some .str
    | some (.slice e) => match tyOf P n e with | some a => some (.sl a) | none => none
    | some (.array len e) => match tyOf P n e with | some a => some (.arr len a) | none => none
    | some (.struct fs) => tyFs P n fs.toList
    | _ => none
def tyFs (P : Program) : Nat → List Field → Option Ty
  | 0, _ => none
  | n + 1, l => match l with
    | [] => some .unit
    | [f] => tyOf P n f.type
    | f :: l => match tyOf P n f.type with
      | some a => match tyFs P n l with | some b => some (.pair a b) | none => none
      | none => none
end

def consF {n : Nat} {α : Type} (x : α) (f : Fin n → α) : Fin (n + 1) → α := fun i => match i with
  | ⟨0, _⟩ => x
  | ⟨j + 1, h⟩ => f ⟨j, Nat.lt_of_succ_lt_succ h⟩

/-- n of them out of the cells. -/
def decA {α : Type} (d : List SV → Option (α × List SV)) : (n : Nat) → List SV → Option ((Fin n → α) × List SV)
  | 0, l => some ((fun i => nomatch i), l)
  | n + 1, l => match d l with
    | some (x, l) => match decA d n l with
      | some (f, l) => some (consF x f, l)
      | none => none
    | none => none

/-- A datum out of its cells. -/
def dec : (t : Ty) → List SV → Option (t.den × List SV)
  | .int k, l => match l with | .v (.int k' n) :: l => (match eqK k k' with | true => some (n, l) | false => none) | _ => none
  | .bool, l => match l with | .v (.bool b) :: l => some (b, l) | _ => none
  | .str, l => match l with | .v (.string s) :: l => some (s, l) | _ => none
  | .unit, l => some ((), l)
  | .sl t, l => match l with
    | .ro false t' xs :: l => (match eqTy t' t with | some h => some (h.down ▸ xs, l) | none => none)
    | .v (.slice none 0 0) :: l => some ([], l)
    | _ => none
  | .pair a b, l => match dec a l with
    | some (x, l) => match dec b l with | some (y, l) => some ((x, y), l) | none => none
    | none => none
  | .arr n t, l => decA (dec t) n l

def decL (t : Ty) : Nat → List SV → Option (List t.den)
  | 0, l => match l with | [] => some [] | _ :: _ => none
  | n + 1, l => match dec t l with
    | some (x, l) => match decL t n l with | some xs => some (x :: xs) | none => none
    | none => none

/-- What is appended: the data, and whose entries are read. -/
def srcV (M : En) (t : Ty) (x : SV) (K : List t.den → List Nat → Prop) : Prop := match x with
  | .slc j o n c => match Nat.ble n c with
    | true => match find M j with
      | .cells _ cs => match cutS cs o (n * t.size) with
        | some l => match decL t n l with | some ys => K ys [j] | none => False
        | none => False
      | _ => False
    | false => False
  | .ro _ t' ys => match eqTy t' t with | some h => K (h.down ▸ ys) [] | none => False
  | .sl j => match find M j with
    | .row _ t' ys => match eqTy t' t with | some h => K (h.down ▸ ys) [j] | none => False
    | _ => False
  | .v (.slice none 0 0) => K [] []
  | _ => False

/-- What is appended; a string's bytes too. -/
def srcA (M : En) (t : Ty) (x : SV) (K : List t.den → List Nat → Prop) : Prop := match x with
  | .v (.string s) => match eqTy (.int .u8) t with | some h => K (h.down ▸ (s.data.toList.map fun b => (b.toNat : Int))) [] | none => False
  | x => srcV M t x K

def byOf (P : Program) (t : TypeId) : Option Nat := match P.info? t with | some i => some i.bytes | none => none

/-- May it be appended to at all? -/
def appOk (P : Program) (e : TypeId) (t : Ty) : Bool := match szOf P e, byOf P e, zeroOf P e with
  | some n, some b, some zs => Nat.beq n t.size && Nat.ble b 400 && Nat.beq zs.length n
  | _, _, _ => false

def isIntT (P : Program) (t : TypeId) : Bool := match P.underlying t with | some (.slice _) => false | some .string => false | _ => true

def listV : List Value → List SV
  | [] => []
  | v :: l => .v v :: listV l

/-- append(nil, make(..)...): so many noughts. -/
def appZ (P : Program) (e tx : TypeId) (s x : SV) (lo : Nat) (Kg : SV → List Nat → List Nat → En → Prop) : Prop := match s, x with
  | .v (.slice none 0 0), .v (.int .i64 n) => (match P.underlying tx with
    | some (.int _) => (match tyOf P 30 e, zeroOf P e with
      | some t, some zs => (match appOk P e t && Nat.blt 0 t.size, decL t 1 (listV zs) with
        | true, some [z] => Ask (0 ≤ n ∧ n ≤ 274877906944) (Kg (.sl lo) [] [] [(lo, .row e t (List.replicate n.toNat z))])
        | _, _ => False)
      | _, _ => False)
    | _ => False)
  | _, _ => False

def appV (P : Program) (types : List TypeId) (args : List SV) (lo : Nat) (M : En) (Kg : SV → List Nat → List Nat → En → Prop) : Prop := match types, args with
  | [ts, tx], [s, x] => match P.underlying ts with
    | some (.slice e) => match isIntT P tx with
      | true => appZ P e tx s x lo Kg
      | false => match s with
        | .v (.slice none 0 0) => match tyOf P 30 e with
          | some t => match appOk P e t with
            | true => srcA M t x fun ys S => Ask (ys.length ≤ 274877906944) (Kg (.sl lo) S [] [(lo, .row e t ys)])
            | false => False
          | none => False
        | .slc i 0 n c => match find M i with
          | .cells te cs => match tyOf P 30 e with
            | some t => match Nat.beq te e && appOk P e t && Nat.beq n c with
              | true => match decL t n cs with
                | some xs => srcA M t x fun ys S => match memB i S with
                  | true => False
                  | false => Ask (xs.length + ys.length ≤ 274877906944) (Kg (.sl lo) (i :: S) [i] [(lo, .row e t (xs ++ ys))])
                | none => False
              | false => False
            | none => False
          | _ => False
        | .sl i => match find M i with
          | .row e' t xs => match Nat.beq e e' && appOk P e t with
            | true => srcA M t x fun ys S => match memB i S with
              | true => False
              | false => Ask (xs.length + ys.length ≤ 274877906944) (Kg (.sl lo) (i :: S) [i] [(lo, .row e t (xs ++ ys))])
            | false => False
          | _ => False
        | _ => False
    | _ => False
  | _, _ => False

/-! ### One operation -/

def mapEv (T : Tm) : List Operand → List SV
  | [] => []
  | x :: l => ev T x :: mapEv T l
def partsEv (T : Tm) : List (Nat × Operand) → List (Nat × SV)
  | [] => []
  | (i, x) :: l => (i, ev T x) :: partsEv T l

def fillS (place : Nat → Option (Nat × Nat)) (cells : List SV) : List (Nat × SV) → Option (List SV)
  | [] => some cells
  | (i, s) :: rest => match place i with
    | none => none
    | some (off, size) => match svCells s with
      | none => none
      | some vs => match Nat.beq vs.length size && Nat.ble (off + size) cells.length with
        | true => match setAll cells off vs with | some cs => fillS place cs rest | none => none
        | false => none

def placeOf (P : Program) (t : TypeId) (i : Nat) : Option (Nat × Nat) := match P.underlying t with
  | some (.struct fs) => match fs.toList[i]? with
    | some f => match szOf P f.type with | some n => some (f.offset, n) | none => none
    | none => none
  | some (.array _ e) => match szOf P e with | some n => some (i * n, n) | none => none
  | _ => none

def szsOk (P : Program) : List Field → Bool
  | [] => true
  | f :: l => match szOf P f.type with | some _ => szsOk P l | none => false
/-- All parts of the type have sizes. -/
def partsOk (P : Program) (t : TypeId) : Bool := match P.underlying t with
  | some (.struct fs) => szsOk P fs.toList
  | some (.array _ e) => match szOf P e with | some _ => true | none => false
  | _ => false

def repS (n : Nat) (l : List SV) : List SV := match n with | 0 => [] | n + 1 => l ++ repS n l

/-- All operands plain values: the model's own reckoning. -/
def plainE (T : Tm) (x : Operand) : Value := match ev T x with | .v a => a | .func fn [] [] => .func fn #[] #[] | _ => undef
def allPlain (T : Tm) : List Operand → Bool
  | [] => true
  | x :: l => match ev T x with | .v _ => allPlain T l | .func _ [] [] => allPlain T l | _ => false
/-- What a function without a body hands back. -/
def evR : Value → SV
  | .tuple vs => .tuple (vs.toList.map .v)
  | v => evC v
def genV (P : Program) (o : Oper) (T : Tm) (K : SV → Prop) : Prop := match allPlain T o.op.operands.toList with
  | true => match pureP P (execOp (plainE T) o) with
    | some (.value v) => K (evR v)
    | _ => False
  | false => False

/-! ### Slices and nil; bytes and strings -/

def nilQ (op : BinOp) (n : Nat) (K : SV → Prop) : Prop := match op with
  | .eql => K (.unkB fun b => b = true → n = 0)
  | .neq => K (.unkB fun b => b = false → n = 0)
  | _ => False
def isNilSl : SV → Bool
  | .v (.slice none 0 0) => true
  | _ => false
/-! Structs and arrays of plain parts -/
mutual
/-- The kinds of a type's parts (0: numbers, 1: truths, 2: strings). -/
def lfs (P : Program) : Nat → TypeId → Option (List Nat)
  | 0, _ => none
  | n + 1, t => match P.underlying t with
    | some (.int _) => some [0]
    | some .bool => some [1]
    | some .string => some [2]
    | some (.struct fs) => match P.stoodInHeld t with | true => none | false => lfsF P n fs.toList 0
    | some (.array len e) => match lfs P n e, szOf P e with
      | some l, some sz => match Nat.beq sz l.length with | true => some (List.replicate len l).flatten | false => none
      | _, _ => none
    | _ => none
def lfsF (P : Program) : Nat → List Field → Nat → Option (List Nat)
  | 0, _, _ => none
  | n + 1, l, off => match l with
    | [] => some []
    | f :: l => match decide (f.name = "_"), Nat.beq f.offset off, lfs P n f.type, szOf P f.type with
      | false, true, some ks, some sz => match Nat.beq sz ks.length with
        | true => match lfsF P n l (off + sz) with | some r => some (ks ++ r) | none => none
        | false => none
      | _, _, _, _ => none
end
def kd1 : Value → Nat
  | .int _ _ => 0
  | .bool _ => 1
  | .string _ => 2
  | _ => 3
def kds (l : List Value) : List Nat := l.map kd1
def eqOkB (P : Program) (t : TypeId) (ks : List Nat) : Bool := match lfs P 20 t, aggOf P t with
  | some l, some true => l == ks && !P.eqGuardType P.depth t
  | _, _ => false
def plainL : List SV → Option (List Value)
  | [] => some []
  | .v a :: l => match plainL l with | some r => some (a :: r) | none => none
  | _ => none
def eq1 : Value → Value → Option Bool
  | .int k a, .int k' b => match eqK k k' with | true => some (a == b) | false => none
  | .bool a, .bool b => some (a == b)
  | .string a, .string b => some (a == b)
  | _, _ => none
def eqLv : List Value → List Value → Option Bool
  | [], [] => some true
  | [a], [b] => eq1 a b
  | a :: l, b :: l' => match eq1 a b with
    | some r => match eqLv l l' with | some r' => some (r && r') | none => none
    | none => none
  | _, _ => none
def eqAggV (P : Program) (op : BinOp) (t : TypeId) (l l' : List SV) (K : SV → Prop) : Prop := match plainL l with
  | some a => match plainL l' with
    | some b => match eqLv a b with
      | some r => match op with
        | .eql => Race (eqOkB P t (kds a) && eqOkB P t (kds b)) (K (.v (.bool r)))
        | .neq => Race (eqOkB P t (kds a) && eqOkB P t (kds b)) (K (.v (.bool (!r))))
        | _ => False
      | none => False
    | none => False
  | none => False
def binW (P : Program) (op : BinOp) (t : TypeId) (x y : SV) (M : En) (K : SV → List Nat → Prop) : Prop := match x with
  | .sl i => (match isNilSl y && isSliceT P t with
    | true => (match find M i with | .row _ _ xs => nilQ op xs.length fun s => K s [i] | _ => False)
    | false => False)
  | .ro _ _ xs => (match isNilSl y && isSliceT P t with | true => nilQ op xs.length fun s => K s [] | false => False)
  | .slc _ _ _ _ => (match isNilSl y && isSliceT P t with | true => notNil op true fun s => K s [] | false => False)
  | .agg l => (match y with | .agg l' => eqAggV P op t l l' fun s => K s [] | _ => False)
  | x => binV P op t x y M K

/-- The number of a string's byte. -/
def byteAt (s : ByteArray) (i : Nat) : Int := match s[i]? with | some b => (b.toNat : Int) | none => 0
/-- A string's bytes as numbers. -/
def bytesL (s : ByteArray) : List Int := s.data.toList.map fun b => (b.toNat : Int)
def bytesT (P : Program) (t : TypeId) : Option TypeId := match P.underlying t with
  | some (.slice e) => (match P.underlying e with | some (.int .u8) => some e | _ => none)
  | _ => none
def isStrT (P : Program) (t : TypeId) : Bool := match P.underlying t with | some .string => true | _ => false

def convW (P : Program) (src dst : TypeId) (x : SV) (lo : Nat) (M : En) (Kp : SV → List Nat → Prop) (Kg : SV → List Nat → List Nat → En → Prop) (F : Prop) : Prop := match bytesT P src with
  | some _ => (match isStrT P dst with
    | true => srcV M (.int .u8) x fun ys S => Kp (.v (.string (strOfNums ys))) S
    | false => (match x with
      | .slc i o l c => (match Nat.beq src dst with
        | true => (match find M i with
          | .cells _ cs => match (match Nat.ble l c with | true => cutS cs o l | false => none) with
            | some l' => (match decL (.int .u8) l l' with | some xs => Kg (.ro false (.int .u8) xs) [i] [i] [] | none => False)
            | none => False
          | _ => False)
        | false => False)
      | _ => F))
  | none => match bytesT P dst with
    | some e => (match isStrT P src with
      | true => (match x with
        | .v (.string s) => Kg (.sl lo) [] [] [(lo, .row e (.int .u8) (bytesL s))]
        | _ => False)
      | false => F)
    | none => F

def indexW (P : Program) (t : TypeId) (x i : SV) (Kp : SV → List Nat → Prop) (F : Prop) : Prop := match isStrT P t with
  | true => (match x with
    | .v (.string s) => (match i with
      | .v (.int _ n) => Ask (0 ≤ n ∧ n < s.size) (Kp (.v (.int .u8 (byteAt s n.toNat))) [])
      | _ => False)
    | _ => False)
  | false => F

/-- A bound of a slice expression. -/
def bndV (T : Tm) (x : Option Operand) (d : Int) (K : Int → Prop) : Prop := match x with
  | none => K d
  | some x => (match ev T x with | .v (.int _ n) => K n | _ => False)
def sliceW (P : Program) (t : TypeId) (x : SV) (T : Tm) (lo hi mx : Option Operand) (nw : Nat) (M : En) (Kp : SV → List Nat → Prop) (Kg : SV → List Nat → List Nat → En → Prop) : Prop := match mx with
  | some y => (match x with
    | .ro b ty xs => (match P.underlying t with
      | some (.slice e) => (match szOf P e with
        | some n => (match Nat.beq n ty.size with
          | true => (match hi with
            | some hy => bndV T lo 0 fun l => bndV T (some hy) 0 fun h => bndV T (some y) 0 fun m => Ask (0 ≤ l ∧ l ≤ h ∧ h ≤ m ∧ m ≤ xs.length) (Kp (.ro b ty ((xs.take h.toNat).drop l.toNat)) [])
            | none => False)
          | false => False)
        | none => False)
      | _ => False)
    | _ => False)
  | none => match x with
    | .v (.slice none 0 0) => (match P.underlying t with
      | some (.slice e) => (match szOf P e with
        | some _ => bndV T lo 0 fun l => bndV T hi 0 fun h => Ask (l = 0 ∧ h = 0) (Kp (.v (.slice none 0 0)) [])
        | none => False)
      | _ => False)
    | .sl i => (match find M i with
      | .row te ty xs => (match P.underlying t with
        | some (.slice e) => (match szOf P e with
          | some n => (match Nat.beq n ty.size with
            | true => (match lo with
              | none => bndV T hi xs.length fun h => Ask (0 ≤ h ∧ h ≤ xs.length) (Kg (.sl nw) [i] [i] [(nw, .row te ty (xs.take h.toNat))])
              | some y => bndV T (some y) 0 fun l => bndV T hi xs.length fun h => Ask (0 < xs.length ∧ 0 ≤ l ∧ l ≤ h ∧ h ≤ xs.length) (Kp (.slv i n l (h - l)) [i]))
            | false => False)
          | none => False)
        | _ => False)
      | _ => False)
    | .v (.string s) => (match isStrT P t with
      | true => bndV T lo 0 fun l => bndV T hi s.size fun h => Ask (0 ≤ l ∧ l ≤ h ∧ h ≤ s.size) (Kp (.v (.string (s.extract l.toNat h.toNat))) [])
      | false => False)
    | .ro b ty xs => (match P.underlying t with
      | some (.slice e) => (match szOf P e with
        | some n => (match Nat.beq n ty.size with
          | true => bndV T lo 0 fun l => bndV T hi xs.length fun h => Ask (0 ≤ l ∧ l ≤ h ∧ h ≤ xs.length) (Kp (.ro b ty ((xs.take h.toNat).drop l.toNat)) [])
          | false => False)
        | none => False)
      | _ => False)
    | _ => False

/-- clear, of a part of a row. -/
def clearV (P : Program) (types : List TypeId) (args : List SV) (M : En) (Kg : SV → List Nat → List Nat → En → Prop) : Prop := match types, args with
  | [t], [.slv i sz l n] => match find M i with
    | .row te ty xs => match P.underlying t with
      | some (.slice e) => (match tyOf P 30 e, zeroOf P e with
        | some ty', some zs => (match eqTy ty' ty, Nat.beq sz ty.size, appOk P e ty, decL ty 1 (listV zs) with
          | some _, true, true, some [z] => Kg (.tuple []) [i] [i] [(i, .row te ty (xs.take l.toNat ++ (List.replicate n.toNat z ++ xs.drop (l.toNat + n.toNat))))]
          | _, _, _, _ => False)
        | _, _ => False)
      | _ => False
    | _ => False
  | _, _ => False

def makeW (P : Program) (t : TypeId) (l c : SV) (lo : Nat) (Kg : SV → List Nat → List Nat → En → Prop) : Prop := match P.underlying t with
  | some (.slice e) => (match l with
    | .v (.int _ n) => (match c with
      | .v (.int _ m) => (match tyOf P 30 e with
        | some ty => (match appOk P e ty, zeroOf P e with
          | true, some zs => (match decL ty 1 (listV zs) with
            | some [z] => Ask (0 ≤ n ∧ n ≤ 274877906944 ∧ m = n) (Kg (.sl lo) [] [] [(lo, .row e ty (List.replicate n.toNat z))])
            | _ => False)
          | _, _ => False)
        | none => False)
      | _ => False)
    | _ => False)
  | _ => False

/-- Iterators over strings (of bytes below 128). -/
def rangeS (P : Program) (t : TypeId) (x : SV) (lo : Nat) (Kg : SV → List Nat → List Nat → En → Prop) : Prop := match isStrT P t with
  | true => (match x with | .v (.string s) => Kg (.ptr lo 0) [] [] [(lo, .siter s 0)] | _ => False)
  | false => False
def nextS (x : SV) (str : Bool) (M : En) (Kg : SV → List Nat → List Nat → En → Prop) : Prop := match str with
  | true => (match x with
    | .ptr i 0 => (match find M i with
      | .siter s p => Fork (decide (p < s.size)) (Ask (byteAt s p < 128) (Kg (.tuple [.v (.bool true), .v (.int .i64 p), .v (.int .i32 (byteAt s p))]) [i] [i] [(i, .siter s (p + 1))]))
          (Kg (.tuple [.v (.bool false)]) [i] [i] [(i, .siter s p)])
      | _ => False)
    | _ => False)
  | false => False

def opV (P : Program) (G : Nat → Option Ctr) (o : Oper) (lo : Nat) (T : Tm) (M : En) (Kp : SV → List Nat → Prop) (Kg : SV → List Nat → List Nat → En → Prop) : Prop :=
  match o.op with
  | .move x => force (ev T x) fun s => Kp s []
  | .assign x => force (ev T x) fun s => Kp s []
  | .pick c x y => match ev T c with
    | .v (.bool b) => Fork b (force (ev T x) fun s => Kp s []) (force (ev T y) fun s => Kp s [])
    | _ => False
  | .alloc t => match zeroOf P t with
    | some zs => Kg (.ptr lo 0) [] [] [(lo, .cells t (listV zs))]
    | none => False
  | .box t x => match svCells (ev T x) with
    | some cs => Kg (.ptr lo 0) [] [] [(lo, .cells t cs)]
    | none => False
  | .build t parts => match (match partsOk P t with | true => zeroOf P t | false => none) with
    | some zs => match fillS (placeOf P t) (listV zs) (partsEv T parts.toList) with
      | some cs => Kp (.agg cs) []
      | none => False
    | none => False
  | .buildSlice t len parts => match P.underlying t with
    | some (.slice e) => match szOf P e, zeroOf P e with
      | some n, some zs => match Nat.beq zs.length n && Nat.blt 0 n && Nat.ble (len * n) 16777216 with
        | true => match fillS (fun i => some (i * n, n)) (repS len (listV zs)) (partsEv T parts.toList) with
          | some cs => Kg (.slc lo 0 len len) [] [] [(lo, .cells e cs)]
          | none => False
        | false => False
      | _, _ => False
    | _ => False
  | .load t x => match ev T x with
    | .ptr i off => match find M i with
      | .cells _ cs => partV P t cs off fun s => Kp s [i]
      | _ => False
    | .rop _ cs off => partV P t cs off fun s => Kp s []
    | .elp i sz ix off => match find M i with
      | .row _ ty xs => match Nat.beq sz ty.size with
        | true => Ask (0 ≤ ix ∧ ix.toNat < xs.length) (All' (fun e => xs[ix.toNat]? = some e) fun e => partV P t (enc ty e) off fun s => Kp s [i])
        | false => False
      | _ => False
    | _ => False
  | .store t x y => match ev T x with
    | .ptr i off => match svCells (ev T y) with
      | some vs => match szOf P t with
        | some n => match Nat.beq n vs.length with
          | true => match find M i with
            | .cells t' cs => match setAll cs off vs with
              | some cs' => Kg (.v undef) [i] [i] [(i, .cells t' cs')]
              | none => False
            | _ => False
          | false => False
        | none => False
      | none => False
    | .elp i sz ix off => match svCells (ev T y) with
      | some vs => match szOf P t with
        | some n => match Nat.beq n vs.length && Nat.ble (off + n) sz && Nat.blt 0 n with
          | true => match find M i with
            | .row te ty xs => match Nat.beq sz ty.size with
              | true => Ask (0 ≤ ix ∧ ix.toNat < xs.length) (All' (fun e => xs[ix.toNat]? = some e) fun e => Some' fun e' =>
                  Eqn (setAll (enc ty e) off vs) (some (enc ty e')) (Kg (.v undef) [i] [i] [(i, .row te ty (xs.set ix.toNat e'))]))
              | false => False
            | _ => False
          | false => False
        | none => False
      | none => False
    | _ => False
  | .nilCheck x => match ev T x with
    | .ptr i off => Kp (.ptr i off) []
    | .elp i z ix off => Kp (.elp i z ix off) []
    | .rop b cs off => Kp (.rop b cs off) []
    | .func (.func f) a c => Kp (.func (.func f) a c) []
    | .v (.func (.yield l) a c) => Kp (.v (.func (.yield l) a c)) []
    | _ => False
  | .fieldAddr t x f => match fldOf P t f with
    | some fd => match szOf P fd.type with
      | some (_ + 1) => match ev T x with
        | .ptr i off => Kp (.ptr i (off + fd.offset)) []
        | .elp i z ix off => Kp (.elp i z ix (off + fd.offset)) []
        | .rop b cs off => Kp (.rop b cs (off + fd.offset)) []
        | _ => False
      | _ => False
    | none => False
  | .field t x f => match fldOf P t f with
    | some fd => match ev T x with
      | .agg cs => partV P fd.type cs fd.offset fun s => Kp s []
      | _ => False
    | none => False
  | .makeFunc fn a c => Kp (.func fn (mapEv T a.toList) (mapEv T c.toList)) []
  | .extract x n => match ev T x with
    | .tuple l => match nth l n with | some s => force s fun s => Kp s [] | none => False
    | _ => False
  | .binOp op t x y _ => binW P op t (ev T x) (ev T y) M Kp
  | .convert a b x => convW P a b (ev T x) lo M Kp Kg (genV P o T fun s => Kp s [])
  | .index t x i => indexW P t (ev T x) (ev T i) Kp (genV P o T fun s => Kp s [])
  | .slice t x l h m => sliceW P t (ev T x) T l h m lo M Kp Kg
  | .makeSlice t l c => makeW P t (ev T l) (ev T c) lo Kg
  | .indexAddr t x y => match ev T y with
    | .v (.int _ ix) => match P.underlying t with
      | some (.slice e) => match ev T x with
        | .ro b ty xs => (match szOf P e with
          | some n => (match Nat.beq n ty.size with
            | true => Ask (0 ≤ ix ∧ ix < xs.length) (All' (fun e => xs[ix.toNat]? = some e) fun e => Kp (.rop b (enc ty e) 0) [])
            | false => False)
          | none => False)
        | .sl i => (match find M i with
          | .row te ty xs => (match szOf P e with
            | some n => (match Nat.beq n ty.size with
              | true => Ask (0 ≤ ix ∧ ix < xs.length) (Kp (.elp i n ix 0) [i])
              | false => False)
            | none => False)
          | _ => False)
        | .slc i o l c => (match szOf P e with
          | some n => Ask (0 ≤ ix ∧ ix < l) (Kp (.ptr i (o + ix.toNat * n)) [])
          | none => False)
        | .slv i sz l m => (match szOf P e with
          | some n => (match Nat.beq n sz with
            | true => Ask (0 ≤ ix ∧ ix < m) (Kp (.elp i n (l + ix) 0) [])
            | false => False)
          | none => False)
        | _ => False
      | some (.array len e) => match ev T x with
        | .ptr i off => (match szOf P e with
          | some n => Ask (0 ≤ ix ∧ ix < len) (Kp (.ptr i (off + ix.toNat * n)) [])
          | none => False)
        | .rop b cs off => (match szOf P e with
          | some n => Ask (0 ≤ ix ∧ ix < len) (Kp (.rop b cs (off + ix.toNat * n)) [])
          | none => False)
        | _ => False
      | _ => False
    | _ => False
  | .range t x => rangeS P t (ev T x) lo Kg
  | .next x str => nextS (ev T x) str M Kg
  | .call c => match c.callee with
    | .value f => match ev T f with
      | .func (.func g) [] cap => match G g with
        | some C => CallP C (mapEv T c.args.toList ++ cap) M lo Kg
        | none => genV P o T fun s => Kp s []
      | .v (.func (.yield l) ⟨[]⟩ _) => YieldP P l (mapEv T c.args.toList) M Kg
      | _ => False
    | .builtin .clear => clearV P c.argTypes.toList (mapEv T c.args.toList) M Kg
    | .builtin .append => appV P c.argTypes.toList (mapEv T c.args.toList) lo M Kg
    | .builtin b => bltV P b c.argTypes.toList (mapEv T c.args.toList) M Kp
    | .invoke _ _ => False
  | .defer _ => False
  | .select _ _ => False
  | _ => genV P o T fun s => Kp s []

/-! ### A region, a text of code -/

def opTmps : List Operand → List Nat
  | [] => []
  | .tmp t :: l => t :: opTmps l
  | _ :: l => opTmps l
def gTmp (all : List Oper) (o : Oper) : List Nat := match o.guard with
  | some (g, _) => match all[g]? with
    | some og => match og.dst with | some d => [d] | none => []
    | none => []
  | none => []
def rdOf (all : List Oper) (o : Oper) : List Nat := gTmp all o ++ opTmps o.op.operands.toList

def gonesM (ci : List Nat) (M : En) : En := match ci with
  | [] => M
  | i :: ci => (i, .gone) :: gonesM ci M
def updM (eo : En) (ci : List Nat) (M : En) : En := match eo with
  | [] => gonesM ci M
  | p :: eo => p :: updM eo ci M

/-- The same states, written out. -/
def putK (d : Option Nat) (x : SV) (T : Tm) (K : Tm → Prop) : Prop := match d with
  | some t => K ((t, x) :: T)
  | none => K T
def gonesK (ci : List Nat) (M : En) (K : En → Prop) : Prop := match ci with
  | [] => K M
  | i :: ci => gonesK ci M fun M => K ((i, .gone) :: M)
def updK (eo : En) (ci : List Nat) (M : En) (K : En → Prop) : Prop := match eo with
  | [] => gonesK ci M K
  | p :: eo => updK eo ci M fun M => K (p :: M)
def forceN (n : Nat) (K : Nat → Prop) : Prop := match n with
  | 0 => K 0
  | m + 1 => K (m + 1)

/-- One operation, guarded or not. -/
def opG (P : Program) (G : Nat → Option Ctr) (base : Nat) (all : List Oper) (o : Oper) (i : Nat) (T : Tm) (M : En) (tr : List Tch) (K : Tm → En → List Tch → Prop) : Prop :=
  forceN (base + 16 * i) fun lo => match o.guard with
  | none => opV P G o lo T M (fun out S => putK o.dst out T fun T => K T M (⟨rdOf all o, o.dst, S, []⟩ :: tr))
      (fun out S ci eo => putK o.dst out T fun T => updK eo ci M fun M => K T M (⟨rdOf all o, o.dst, S, ci ++ keys eo⟩ :: tr))
  | some (g, want) => match gTmp all o with
    | [d] => match look T d with
      | .v (.bool b) => match want with
        | true => Fork b (opV P G o lo T M (fun out S => putK o.dst out T fun T => K T M (⟨rdOf all o, o.dst, S, []⟩ :: tr))
            (fun out S ci eo => putK o.dst out T fun T => updK eo ci M fun M => K T M (⟨rdOf all o, o.dst, S, ci ++ keys eo⟩ :: tr)))
            (putK o.dst (.v undef) T fun T => K T M (⟨rdOf all o, o.dst, [], []⟩ :: tr))
        | false => Fork b (putK o.dst (.v undef) T fun T => K T M (⟨rdOf all o, o.dst, [], []⟩ :: tr))
            (opV P G o lo T M (fun out S => putK o.dst out T fun T => K T M (⟨rdOf all o, o.dst, S, []⟩ :: tr))
            (fun out S ci eo => putK o.dst out T fun T => updK eo ci M fun M => K T M (⟨rdOf all o, o.dst, S, ci ++ keys eo⟩ :: tr)))
      | .v (.tuple _) => putK o.dst (.v undef) T fun T => K T M (⟨rdOf all o, o.dst, [], []⟩ :: tr)
      | _ => False
    | _ => False

noncomputable def vcOps (P : Program) (G : Nat → Option Ctr) (base : Nat) (all : List Oper) (l : List Oper) : Nat → Tm → En → List Tch → (Tm → En → List Tch → Prop) → Prop :=
  List.rec (motive := fun _ => Nat → Tm → En → List Tch → (Tm → En → List Tch → Prop) → Prop)
    (fun _ T M tr K => K T M tr)
    (fun o _ ih i T M tr K => opG P G base all o i T M tr fun T M tr => forceN (i + 1) fun i => ih i T M tr K) l

def matT (M : En) (T : Tm) : (tgt : Tm) → Mp → List Nat → List Nat → List Prop → MK → Prop
  | [], m, bs, fs, q, K => K m bs fs q
  | (t, s) :: l, m, bs, fs, q, K => matSV M 200 s (look T t) m bs fs q fun m bs fs q => matT M T l m bs fs q K

/-- The state is one of the invariant's. -/
def matSt (rg : Mp) (T : Tm) (M : En) (T' : Tm) (M' : En) (K : Prop) : Prop :=
  matT M T T' rg [] [] [] fun m bs fs q => matE M M' m bs fs q [] fun m bs fs q us => match bs with
    | [] => match anyB fs us || !allLt 1984 m with | true => False | false => AskL q K
    | _ :: _ => False

abbrev VK := Exit → Nat → Tm → En → Prop

def seqK (k : VK → Nat → Tm → En → Prop) (K : VK) : VK := fun e nx T M => match e with
  | .normal => k K nx T M
  | .exit j => K (.exit j) nx T M
  | .ret => K .ret nx T M
  | _ => False
def blkK (id : Nat) (K : VK) : VK := fun e nx T M => match e with
  | .normal => K .normal nx T M
  | .exit j => match Nat.beq j id with | true => K .normal nx T M | false => K (.exit j) nx T M
  | .ret => K .ret nx T M
  | _ => False
def loopV (An : List Nat → Nat → Option AN) (ms : List Nat) (rg : Mp) (cur : Nat) (body : List Nat → Nat → Tm → En → VK → Prop) (T : Tm) (M : En) (K : VK) : Prop := match An ms cur with
  | some (.loop L) => Some' fun x0 => matSt rg T M (L.T x0) (L.M x0) (Ask (L.pre x0) (AllI L.pre fun x =>
      body (L.mu x :: ms) 2000 (L.T x) (L.M x) fun e nx T' M' => match e with
        | .normal => Some' fun x' => matSt rg T' M' (L.T x') (L.M x') (Ask (L.pre x') (Ask (L.mu x' < L.mu x) True))
        | .exit j => K (.exit j) nx T' M'
        | .ret => K .ret nx T' M'
        | _ => False))
  | _ => False
def condV (T : Tm) (c : Operand) (A B : Prop) : Prop := match ev T c with
  | .v (.bool t) => Fork t A B
  | .unkB p => ForkP p A B
  | _ => False
noncomputable def regV (P : Program) (G : Nat → Option Ctr) (ops : Array Oper) (dr : Bool) (nx : Nat) (T : Tm) (M : En) (K : VK) : Prop :=
  vcOps P G nx ops.toList ops.toList 0 T M [] fun T M tr => match dr with
    | true => Race (raceOk ops.toList tr.reverse) (forceN (nx + 16 * ops.size) fun nx => K .normal nx T M)
    | false => forceN (nx + 16 * ops.size) fun nx => K .normal nx T M

/-! ### A range over a function -/

def goesB (g : Nat → Bool) : Nat → Bool
  | 0 => true
  | k + 1 => match goesB g k with | true => g k | false => false
def liveB (n : Nat) (g : Nat → Bool) (k : Nat) : Bool := match Nat.blt k n with | true => goesB g k | false => false

def idM : List Nat → Mp
  | [] => []
  | j :: l => (j, j) :: idM l
def ltB (n : Nat) : List Nat → Bool
  | [] => true
  | j :: l => match Nat.blt j n with | true => ltB n l | false => false
def setPs : List Nat → List SV → Tm → Option Tm
  | [], [], T => some T
  | p :: ps, s :: ss, T => setPs ps ss (putT (some p) s T)
  | _, _, _ => none

mutual
/-- All names are among rg. -/
def inS : Nat → List Nat → SV → Bool
  | 0, _, _ => false
  | n + 1, rg, s => match s with
    | .v _ => true
    | .any => true
    | .ptr i _ => memB i rg
    | .elp i _ _ _ => memB i rg
    | .rop _ cs _ => inL n rg cs
    | .sl i => memB i rg
    | .slc i _ _ _ => memB i rg
    | .slv i _ _ _ => memB i rg
    | .ro _ _ _ => true
    | .agg l => inL n rg l
    | .tuple l => inL n rg l
    | .func _ a c => match inL n rg a with | true => inL n rg c | false => false
    | .unkB _ => true
def inL : Nat → List Nat → List SV → Bool
  | 0, _, _ => false
  | n + 1, rg, l => match l with
    | [] => true
    | s :: l => match inS n rg s with | true => inL n rg l | false => false
end
def inT (rg : List Nat) : Tm → Bool
  | [] => true
  | (_, s) :: T => match inS 200 rg s with | true => inT rg T | false => false

/-- How a round may end. -/
def roundK (R : RA) (x : R.X) (k : Nat) : VK := fun e _ T M => match e with
  | .normal => Ask (R.goes x k = true) (matSt (idM R.rg) T M [] (R.M x (k + 1)) True)
  | .exit j => Ask (R.goes x k = false ∧ R.jump x k = .exit j) (matSt (idM R.rg) T M [] (R.M x (k + 1)) True)
  | .ret => Ask (R.goes x k = false ∧ R.jump x k = .ret) (matSt (idM R.rg) T M [] (R.M x (k + 1)) True)
  | _ => False
def jumpV (e : Exit) (K : Exit → Prop) : Prop := match e with
  | .exit j => K (.exit j)
  | .ret => K .ret
  | _ => False
/-- Behind the statement. -/
def backV (R : RA) (x : R.X) (Y : Yld) (M2 : En) (K : VK) : Prop := match find M2 1983 with
  | .res _ A => Some' fun n => Eqn A (Y.S n) (renE true (extM (idM R.rg) 2016 (keys (R.M x n))) (R.M x n) fun eo => match nodupB (keys eo) && nodupB (keys (R.M x n)) && Nat.ble (keys (R.M x n)).length 16 with
    | true => updK eo [1983] M2 fun M2 => Fork (goesB (R.goes x) n) (K .normal 2032 (R.T x) M2) (jumpV (R.jump x (n - 1)) fun e => K e 2032 (R.T x) M2)
    | false => False)
  | _ => False
/-- Has the function a body? -/
def bodyB (P : Program) (g : Nat) : Bool := match P.funcs[g]? with | some fn => fn.body.isSome | none => false
def callV (P : Program) (G : Nat → Option Ctr) (f : SV) (l : Nat) (M : En) (Kg : SV → List Nat → List Nat → En → Prop) : Prop := match f with
  | .func (.func g) [] cap => match G g with
    | some C => match bodyB P g with | true => CallP C (.v (.func (.yield l) ⟨[]⟩ ⟨[]⟩) :: cap) M 2000 Kg | false => False
    | none => False
  | _ => False
def rangeV (P : Program) (G : Nat → Option Ctr) (An : List Nat → Nat → Option AN) (ms : List Nat) (rg : Mp) (cur : Nat) (g : Operand) (ps : List Nat) (asV bodyV : List Nat → Mp → Nat → Nat → Tm → En → VK → Prop) (T : Tm) (M : En) (K : VK) : Prop := match An ms cur with
  | some (.range R) => Some' fun x => match inT R.rg (R.T x) && ltB 1983 R.rg && !anyB (keys (R.M x 0)) (keys (R.R x)) with
    | true => matSt rg T M (R.T x) (updM (R.M x 0) [] (R.R x)) (Two
        (AllI (fun k => liveB (R.n x) (R.goes x) k = true) fun k => match setPs ps (R.args x k) (R.T x) with
          | some T' => asV (k :: ms) (idM R.rg) cur 2000 T' (R.M x k) fun e nx T M => match e with
            | .normal => bodyV (k :: ms) (idM R.rg) cur nx T M (roundK R x k)
            | _ => False
          | none => False)
        (AllI (fun y : Nat × Yld => y.2.args = R.args x ∧ y.2.goes = R.goes x ∧ y.2.live = liveB (R.n x) (R.goes x) ∧ YOk P y.1 y.2) fun y =>
          callV P G (ev (R.T x) g) y.1 ((1983, .res y.2.F (y.2.S 0)) :: R.R x) fun _ _ ci eo => updK eo ci ((1983, .res y.2.F (y.2.S 0)) :: R.R x) fun M => backV R x y.2 M K))
    | false => False
  | _ => False

noncomputable def vc (P : Program) (G : Nat → Option Ctr) (An : List Nat → Nat → Option AN) (c : Code) : (ms : List Nat) → (rg : Mp) → (cur nx : Nat) → Tm → En → VK → Prop :=
  Code.rec (motive := fun _ => List Nat → Mp → Nat → Nat → Tm → En → VK → Prop)
    (skip := fun _ _ _ nx T M K => K .normal nx T M)
    (region := fun _ ops dr _ _ _ nx T M K => regV P G ops dr nx T M K)
    (seq := fun _ _ iha ihb ms rg cur nx T M K => iha ms rg cur nx T M (seqK (fun K nx T M => ihb ms rg cur nx T M K) K))
    (cond := fun c _ _ iha ihb ms rg cur nx T M K => condV T c (iha ms rg cur nx T M K) (ihb ms rg cur nx T M K))
    (block := fun id _ ih ms rg _ nx T M K => ih ms rg id nx T M (blkK id K))
    (loop := fun _ ih ms rg cur _ T M K => loopV An ms rg cur (fun ms => ih ms rg cur) T M K)
    (rangeFunc := fun g ps _ _ iha ihb ms rg cur _ T M K => rangeV P G An ms rg cur g ps.toList iha ihb T M K)
    (exit := fun i _ _ _ nx T M K => K (.exit i) nx T M)
    (scope := fun _ ih ms rg cur nx T M K => ih ms rg cur nx T M (seqK (fun K nx T M => K .normal nx T M) K))
    (label := fun _ _ _ _ nx T M K => K .normal nx T M)
    (goto := fun _ _ _ _ _ _ _ _ => False)
    (ret := fun _ _ _ nx T M K => K .ret nx T M)
    (refuse := fun _ _ _ _ _ _ _ _ => False) c

/-! ### A function -/

def numT (n : Nat) : List SV → Tm
  | [] => []
  | s :: l => (n, s) :: numT (n + 1) l
def rgOf : En → Mp
  | [] => []
  | (j, _) :: l => (j, j) :: rgOf l

def endL (P : Program) (T : Tm) (M : En) : List ResultVar → (List SV → Prop) → Prop
  | [], K => K []
  | .tmp t :: l, K => force (look T t) fun s => endL P T M l fun ss => K (s :: ss)
  | .cell a t :: l, K => match look T a with
    | .ptr i off => match find M i with
      | .cells _ cs => partV P t cs off fun s => endL P T M l fun ss => K (s :: ss)
      | _ => False
    | _ => False
def endV (P : Program) (T : Tm) (M : En) (rs : List ResultVar) (K : SV → Prop) : Prop := endL P T M rs fun l => match l with
  | [s] => K s
  | l => K (.tuple l)

def newOk (rg : Mp) : Mp → Bool
  | [] => true
  | (j, _) :: m => match Nat.ble 1000 j with
    | true => newOk rg m
    | false => match mlook rg j with | some _ => newOk rg m | none => false

def postB (C : Ctr) (x : C.X) (rg : Mp) (M : En) (v : SV) : Prop :=
  matSV M 200 (C.res x (C.val x)) v rg [] [] [] fun m bs fs q => matE M (C.out x (C.val x)) m bs fs q [] fun m bs fs q us => match bs with
    | [] => match anyB fs us || !newOk rg m || !allLt 1984 m with | true => False | false => AskL q True
    | _ :: _ => False

def bodyC (fn : Func) : Code := match fn.body with | some c => c | none => .skip

def keysLt (n : Nat) : En → Bool
  | [] => true
  | (j, _) :: l => match Nat.blt j n with | true => keysLt n l | false => false

noncomputable def fnVC (P : Program) (G : Nat → Option Ctr) (An : List Nat → Nat → Option AN) (fn : Func) (C : Ctr) (x : C.X) : Prop := match keysLt 1000 (C.rw x) with
  | true => match Nat.ble (C.args x).length fn.ntmps with
    | true => vc P G An (bodyC fn) [] (rgOf (C.rw x)) 0 2000 (numT 0 (C.args x)) (C.rw x) fun e _ T M => match e with
      | .normal => endV P T M fn.results.toList fun v => postB C x (rgOf (C.rw x)) M v
      | .ret => endV P T M fn.results.toList fun v => postB C x (rgOf (C.rw x)) M v
      | _ => False
    | false => False
  | false => False

end Go.Eng

/-! The engine, part F: what a comparison of states, and a renaming, are good for. -/
set_option linter.unusedVariables false
namespace Go.Eng
variable [DM]
set_option linter.unusedSectionVars false

def allq (q : List Prop) : Prop := ∀ p, p ∈ q → p

theorem conj_all : ∀ (q : List Prop), conj q → allq q
  | [], _ => fun p hp => by cases hp
  | [p], h => fun p' hp => by
    obtain rfl : p' = p := by simpa using hp
    exact h
  | p :: p2 :: l, h => fun p' hp => by
    obtain ⟨h1, h2⟩ := (h : conj (p2 :: l) ∧ p)
    rcases List.mem_cons.1 hp with rfl | hp
    · exact h2
    · exact conj_all (p2 :: l) h1 p' hp

theorem allq.tail {p : Prop} {q : List Prop} (h : allq (p :: q)) : allq q := fun p' hp => h p' (List.mem_cons_of_mem _ hp)
theorem allq.head {p : Prop} {q : List Prop} (h : allq (p :: q)) : p := h p (List.mem_cons_self ..)

def blks (fp : Nat → Nat → Prop) (l : List Nat) (b : Nat) : Prop := ∃ i, i ∈ l ∧ fp i b

/-- The environment of the target. -/
def envF (E : Env) (fp : Nat → Nat → Prop) (m : Mp) (bs fs : List Nat) : Env :=
  { slot := fun j => match nilB j with | true => some nilSlot | false => (mlook m j).bind E.slot, I := fun b => E.I b ∨ blks fp fs b, B := fun b => E.B b ∨ blks fp bs b }

structure Grow (m m' : Mp) (bs bs' fs fs' : List Nat) (q q' : List Prop) : Prop where
  m : ∀ j i, mlook m j = some i → mlook m' j = some i
  bs : ∀ i, i ∈ bs → i ∈ bs'
  fs : ∀ i, i ∈ fs → i ∈ fs'
  q : allq q' → allq q

theorem Grow.refl (m : Mp) (bs fs : List Nat) (q : List Prop) : Grow m m bs bs fs fs q q := ⟨fun _ _ h => h, fun _ h => h, fun _ h => h, fun h => h⟩
theorem Grow.trans {m m1 m2 : Mp} {bs bs1 bs2 fs fs1 fs2 : List Nat} {q q1 q2 : List Prop} (h : Grow m m1 bs bs1 fs fs1 q q1) (k : Grow m1 m2 bs1 bs2 fs1 fs2 q1 q2) :
    Grow m m2 bs bs2 fs fs2 q q2 := ⟨fun j i e => k.m j i (h.m j i e), fun i e => k.bs i (h.bs i e), fun i e => k.fs i (h.fs i e), fun e => h.q (k.q e)⟩

theorem Grow.env {m m' : Mp} {bs bs' fs fs' : List Nat} {q q' : List Prop} (h : Grow m m' bs bs' fs fs' q q') (E : Env) (fp : Nat → Nat → Prop) : (envF E fp m bs fs).le (envF E fp m' bs' fs') := by
  refine ⟨fun j s hj => ?_, fun b hb => hb.imp id (fun ⟨i, h1, h2⟩ => ⟨i, h.fs i h1, h2⟩), fun b hb => hb.imp id (fun ⟨i, h1, h2⟩ => ⟨i, h.bs i h1, h2⟩)⟩
  simp only [envF] at *
  cases hn : nilB j with
  | true => rw [hn] at hj; exact hj
  | false =>
    rw [hn] at hj
    cases hm : mlook m j with
    | none => rw [hm] at hj; cases hj
    | some i => rw [hm] at hj; rw [h.m j i hm]; exact hj

theorem mlook_cons (j i : Nat) (m : Mp) (k : Nat) : mlook ((j, i) :: m) k = if j = k then some i else mlook m k := by
  by_cases h : j = k
  · subst h; simp [mlook]
  · have hb : Nat.beq j k = false := by rw [← Bool.not_eq_true, Nat.beq_eq]; exact h
    simp [mlook, hb, h]

theorem mlook_new {j i : Nat} {m : Mp} (hn : mlook m j = none) (j' i' : Nat) (e : mlook m j' = some i') : mlook ((j, i) :: m) j' = some i' := by
  rw [mlook_cons]
  by_cases hj : j = j'
  · subst hj; rw [hn] at e; cases e
  · rw [if_neg hj]; exact e

theorem bindM_spec {j i : Nat} {m : Mp} {K : Mp → Prop} (h : bindM j i m K) : ∃ m', K m' ∧ (∀ j i, mlook m j = some i → mlook m' j = some i) ∧ mlook m' j = some i ∧ nilB j = false := by
  unfold bindM at h
  split at h
  · exact h.elim
  · rename_i hz
    split at h
    · rename_i i' hi
      split at h
      · rename_i hb
        obtain rfl := Nat.eq_of_beq_eq_true hb
        exact ⟨m, h, fun _ _ e => e, hi, hz⟩
      · exact h.elim
    · rename_i hn
      exact ⟨_, h, mlook_new hn, by rw [mlook_cons]; simp, hz⟩

theorem nilM_spec {j : Nat} {m : Mp} {K : Mp → Prop} (h : nilM j m K) : ∃ m' i, K m' ∧ (∀ j i, mlook m j = some i → mlook m' j = some i) ∧ mlook m' j = some i ∧ nilB i = true ∧ nilB j = false := by
  unfold nilM at h
  split at h
  · exact h.elim
  · rename_i hz
    split at h
    · rename_i i hi
      split at h
      · rename_i hb; exact ⟨m, i, h, fun _ _ e => e, hi, hb, hz⟩
      · exact h.elim
    · rename_i hn
      split at h
      · rename_i hb; exact ⟨_, _, h, mlook_new hn, by rw [mlook_cons]; simp, hb, hz⟩
      · exact h.elim

theorem eqK_eq {k k' : IntKind} (h : eqK k k' = true) : k = k' := by
  cases k <;> cases k' <;> first | rfl | (exact absurd h (by decide))

theorem eqV_spec {x y : Value} {q : List Prop} {K : List Prop → Prop} (h : eqV x y q K) : ∃ q', K q' ∧ (allq q' → allq q ∧ x = y) := by
  unfold eqV at h
  split at h
  · split at h
    · split at h
      · rename_i hk
        obtain rfl := eqK_eq hk
        exact ⟨_, h, fun ha => ⟨ha.tail, by rw [ha.head]⟩⟩
      · exact h.elim
    · exact h.elim
  · split at h
    · exact ⟨_, h, fun ha => ⟨ha.tail, by rw [ha.head]⟩⟩
    · exact h.elim
  · split at h
    · exact ⟨_, h, fun ha => ⟨ha.tail, by rw [ha.head]⟩⟩
    · exact h.elim
  · exact ⟨_, h, fun ha => ⟨ha.tail, ha.head⟩⟩

theorem Sat.weaken {E : Env} {w : World} {b b' : Bool} {t : Ty} {xs : List t.den} {v : Value} (h : Sat E w (.ro b t xs) v) (hb : b = true → b' = true) : Sat E w (.ro b' t xs) v := by
  generalize hs : SV.ro b t xs = s at h
  cases h <;> cases hs
  · exact .nil b' t _ _
  · rename_i k o c u hbk hle hc hs
    exact .ro b' t xs k o c u (hbk.imp id (fun ⟨h1, h2⟩ => ⟨hb h1, h2⟩)) hle hc hs

theorem flatF_get {α : Type} (f : α → List SV) (n : Nat) (hf : ∀ a, (f a).length = n) : ∀ (xs : List α) (i j : Nat) (x : α), xs[i]? = some x → j < n → (flatF f xs)[i * n + j]? = (f x)[j]?
  | [], i, j, x, h, _ => by simp at h
  | a :: l, 0, j, x, h, hj => by
    obtain rfl : a = x := by simpa using h
    simp only [flatF, Nat.zero_mul, Nat.zero_add]
    rw [List.getElem?_append_left (by rw [hf]; exact hj)]
  | a :: l, i + 1, j, x, h, hj => by
    simp only [flatF]
    rw [List.getElem?_append_right (by rw [hf, Nat.add_mul]; omega), hf, show (i + 1) * n + j - n = i * n + j by rw [Nat.add_mul]; omega]
    exact flatF_get f n hf l i j x (by simpa using h) hj

theorem cutS_spec : ∀ (cs : List SV) (o n : Nat) (l : List SV), cutS cs o n = some l → l.length = n ∧ ∀ j, j < n → cs[o + j]? = l[j]?
  | cs, o, 0, l, h => by
    have : l = [] := by cases cs <;> cases o <;> simp_all [cutS]
    subst this; exact ⟨rfl, fun j hj => by omega⟩
  | [], o, n + 1, l, h => by simp [cutS] at h
  | x :: cs, 0, n + 1, l, h => by
    simp only [cutS] at h
    split at h
    · rename_i l' hl
      simp only [Option.some.injEq] at h; subst h
      obtain ⟨h1, h2⟩ := cutS_spec cs 0 n l' hl
      refine ⟨by simp [h1], fun j hj => ?_⟩
      cases j with
      | zero => rfl
      | succ j => have := h2 j (by omega); simpa using this
    · cases h
  | x :: cs, o + 1, n + 1, l, h => by
    simp only [cutS] at h
    obtain ⟨h1, h2⟩ := cutS_spec cs o (n + 1) l h
    refine ⟨h1, fun j hj => ?_⟩
    rw [← h2 j hj, show o + 1 + j = (o + j) + 1 by omega]; rfl

/-- What is lent or given up is there. -/
def Lent (M : En) (E : Env) (w : World) (fp : Nat → Nat → Prop) (bs fs : List Nat) : Prop := NilOk E ∧ ∀ i, i ∈ bs ∨ i ∈ fs → EntSat E w (fp i) i (find M i)

def Good1 (M : En) (tgt src : SV) (m' : Mp) (bs' fs' : List Nat) (q' : List Prop) : Prop :=
  allq q' → ∀ (E : Env) (w : World) (fp : Nat → Nat → Prop), Lent M E w fp bs' fs' → ∀ v, Sat E w src v → Sat (envF E fp m' bs' fs') w tgt v

theorem Good1.grow {M : En} {tgt src : SV} {m m' : Mp} {bs bs' fs fs' : List Nat} {q q' : List Prop} (h : Good1 M tgt src m bs fs q) (g : Grow m m' bs bs' fs fs' q q') : Good1 M tgt src m' bs' fs' q' :=
  fun hq E w fp hl v hv => (h (g.q hq) E w fp ⟨hl.1, fun i hi => hl.2 i (hi.imp (g.bs i) (g.fs i))⟩ v hv).mono (g.env E fp) (fun _ _ _ => rfl)

def GoodL (M : En) (tgt src : List SV) (m' : Mp) (bs' fs' : List Nat) (q' : List Prop) : Prop :=
  tgt.length = src.length ∧ ∀ (j : Nat) (t s : SV), tgt[j]? = some t → src[j]? = some s → Good1 M t s m' bs' fs' q'

theorem envF_ok {E : Env} {fp : Nat → Nat → Prop} {m : Mp} {bs fs : List Nat} {b : Bool} {k : Nat} (h : E.ok b k) : (envF E fp m bs fs).ok b k := h.imp .inl (fun ⟨h1, h2⟩ => ⟨h1, .inl h2⟩)

theorem Sat.stay {E E' : Env} {w : World} {s : SV} {v : Value} (h : Sat E w s v) (hE : E.le E') : Sat E' w s v := h.mono hE (fun _ _ _ => rfl)

/-- Data know no names: of the environment they want what may be read alone. -/
theorem enc_move {E E' : Env} {w : World} (hI : ∀ b, E.I b → E'.I b) : ∀ (t : Ty),
    (∀ (x : t.den) (j : Nat) (sv : SV) (v : Value), (enc t x)[j]? = some sv → Sat E w sv v → Sat E' w sv v) ∧
    (∀ (xs : List t.den) (v : Value), Sat E w (.ro false t xs) v → Sat E' w (.ro false t xs) v)  := by
  have row : ∀ (t : Ty), (∀ (x : t.den) (j : Nat) (sv : SV) (v : Value), (enc t x)[j]? = some sv → Sat E w sv v → Sat E' w sv v) →
      ∀ (xs : List t.den) (v : Value), Sat E w (.ro false t xs) v → Sat E' w (.ro false t xs) v := by
    intro t ih xs v h
    generalize hs : SV.ro false t xs = s at h
    cases h <;> cases hs
    · exact .nil false t _ _
    · rename_i k o c u hbk hle hc hs
      exact .ro false t xs k o c u (hbk.imp (hI k) (fun ⟨h1, _⟩ => by cases h1)) hle hc (fun i x j sv hi hj => ih x j sv _ hj (hs i x j sv hi hj))
  have scal : ∀ (y : Value) (j : Nat) (sv : SV) (v : Value), [SV.v y][j]? = some sv → Sat E w sv v → Sat E' w sv v := by
    intro y j sv v hj hv
    cases j with
    | zero =>
      obtain rfl : SV.v y = sv := by simpa using hj
      cases hv; exact .v y
    | succ j => simp at hj
  intro t
  induction t with
  | int k => exact ⟨fun x => scal _, row _ fun x => scal _⟩
  | bool => exact ⟨fun x => scal _, row _ fun x => scal _⟩
  | str => exact ⟨fun x => scal _, row _ fun x => scal _⟩
  | unit => exact ⟨fun x j sv v hj => by simp [enc] at hj, row _ fun x j sv v hj => by simp [enc] at hj⟩
  | sl t ih =>
    have h1 : ∀ (x : (Ty.sl t).den) (j : Nat) (sv : SV) (v : Value), (enc (.sl t) x)[j]? = some sv → Sat E w sv v → Sat E' w sv v := by
      intro x j sv v hj hv
      cases j with
      | zero =>
        obtain rfl : SV.ro false t x = sv := by simpa [enc] using hj
        exact ih.2 x v hv
      | succ j => simp [enc] at hj
    exact ⟨h1, row _ h1⟩
  | pair a b iha ihb =>
    have h1 : ∀ (x : (Ty.pair a b).den) (j : Nat) (sv : SV) (v : Value), (enc (.pair a b) x)[j]? = some sv → Sat E w sv v → Sat E' w sv v := by
      intro x j sv v hj hv
      simp only [enc] at hj
      rcases Nat.lt_or_ge j (enc a x.1).length with hlt | hge
      · rw [List.getElem?_append_left hlt] at hj; exact iha.1 _ _ _ _ hj hv
      · rw [List.getElem?_append_right hge] at hj; exact ihb.1 _ _ _ _ hj hv
    exact ⟨h1, row _ h1⟩
  | arr n t ih =>
    have h0 : ∀ (f : Fin n → t.den) (l : List (Fin n)) (j : Nat) (sv : SV) (v : Value), (flatF (fun i => enc t (f i)) l)[j]? = some sv → Sat E w sv v → Sat E' w sv v := by
      intro f l
      induction l with
      | nil => intro j sv v hj; simp [flatF] at hj
      | cons a l ihl =>
        intro j sv v hj hv
        simp only [flatF] at hj
        rcases Nat.lt_or_ge j (enc t (f a)).length with hlt | hge
        · rw [List.getElem?_append_left hlt] at hj; exact ih.1 _ _ _ _ hj hv
        · rw [List.getElem?_append_right hge] at hj; exact ihl _ _ _ hj hv
    exact ⟨fun x => h0 x _, row _ fun x => h0 x _⟩

/-- Data again, whatever the names. -/
theorem enc_env {E : Env} {w : World} {fp : Nat → Nat → Prop} {m : Mp} {bs fs : List Nat} {t : Ty} {x : t.den} {j : Nat} {sv : SV} {v : Value} (hj : (enc t x)[j]? = some sv) (h : Sat E w sv v) :
    Sat (envF E fp m bs fs) w sv v := (enc_move (E' := envF E fp m bs fs) (fun b hb => Or.inl hb) t).1 x j sv v hj h

theorem ro_env {E : Env} {w : World} {fp : Nat → Nat → Prop} {m : Mp} {bs fs : List Nat} {b : Bool} {t : Ty} {xs : List t.den} {v : Value} (h : Sat E w (.ro b t xs) v) :
    Sat (envF E fp m bs fs) w (.ro b t xs) v := by
  generalize hs : SV.ro b t xs = s at h
  cases h <;> cases hs
  · exact .nil b t _ _
  · rename_i k o c u hbk hle hc hs
    exact .ro b t xs k o c u (envF_ok hbk) hle hc (fun i x j sv hi hj => enc_env hj (hs i x j sv hi hj))

theorem row_ro {E : Env} {w : World} {fp : Nat → Nat → Prop} {m : Mp} {bs fs : List Nat} {b : Bool} {te : TypeId} {t : Ty} {xs : List t.den} {i : Nat} {s : Slot}
    (h : EntSat E w (fp i) i (.row te t xs)) (hs : E.slot i = some s) (hb : if b = true then i ∈ bs else i ∈ fs) : Sat (envF E fp m bs fs) w (.ro b t xs) s.val := by
  obtain ⟨s', h1, h2⟩ := h
  obtain rfl := Option.some.inj (hs.symm.trans h1)
  rcases h2 with ⟨hv, hx, _⟩ | ⟨o, c, arr, fz, hv, hfp, hheap, _, hle, hsz, hcells⟩
  · rw [hv]; subst hx; exact .nil b t _ _
  · rw [hv]
    refine .ro b t xs s.blk o c (fun m => arr.getD (o + m) undef) ?_ hle (fun m hm => ?_) (fun i x j sv hi hj => ?_)
    · cases b with
      | true => exact .inr ⟨rfl, .inr ⟨i, by simpa using hb, (hfp _).2 rfl⟩⟩
      | false => exact .inl (.inr ⟨i, by simpa using hb, (hfp _).2 rfl⟩)
    · have : o + m < arr.size := by
        have := Nat.mul_le_mul_right t.size hle
        omega
      simp [World.cell?, hheap, this]
    · obtain ⟨u, hu, hsat⟩ := hcells i x j sv hi hj
      have : arr.getD (o + (i * t.size + j)) undef = u := by rw [← Nat.add_assoc]; simp [hu]
      rw [this]
      exact enc_env hj hsat

theorem ro_inj {t t' : Ty} {xs : List t.den} {ys : List t'.den} (h : SV.ro true t' ys = SV.ro true t xs) : ∃ e : t' = t, e ▸ ys = xs := by
  injection h with h1 h2 h3
  subst h2
  exact ⟨rfl, eq_of_heq h3⟩

theorem good_ro {M : En} {b b' : Bool} {t t' : Ty} {xs : List t.den} {ys : List t'.den} {m : Mp} {bs fs : List Nat} {q : List Prop} (hb : b' = true → b = true) :
    Good1 M (.ro b t xs) (.ro b' t' ys) m bs fs ((SV.ro true t' ys = SV.ro true t xs) :: q) := by
  intro hq E w fp _ v hv
  obtain ⟨e, he⟩ := ro_inj hq.head
  subst e
  simp only at he
  subst he
  exact (ro_env hv).weaken hb

theorem nilV_spec {y : Value} {A : Prop} (h : nilV y A) : y = .slice none 0 0 ∧ A := by
  unfold nilV at h
  split at h
  · exact ⟨rfl, h⟩
  · exact h.elim

theorem mat_good (M : En) : ∀ (n : Nat),
    (∀ tgt src m bs fs q K, matSV M n tgt src m bs fs q K → ∃ m' bs' fs' q', K m' bs' fs' q' ∧ Grow m m' bs bs' fs fs' q q' ∧ Good1 M tgt src m' bs' fs' q') ∧
    (∀ tgt src m bs fs q K, matL M n tgt src m bs fs q K → ∃ m' bs' fs' q', K m' bs' fs' q' ∧ Grow m m' bs bs' fs fs' q q' ∧ GoodL M tgt src m' bs' fs' q') := by
  intro n
  induction n with
  | zero => exact ⟨fun tgt src m bs fs q K h => by simp [matSV] at h, fun tgt src m bs fs q K h => by simp [matL] at h⟩
  | succ n ih =>
    obtain ⟨ih1, ih2⟩ := ih
    refine ⟨?_, ?_⟩
    · intro tgt src m bs fs q K h
      unfold matSV at h
      cases tgt with
      | any => exact ⟨m, bs, fs, q, h, .refl _ _ _ _, fun _ E w fp _ v _ => .any v⟩
      | v x =>
        cases src with
        | v y =>
          obtain ⟨q', h1, h2⟩ := eqV_spec h
          refine ⟨m, bs, fs, q', h1, ⟨fun _ _ e => e, fun _ e => e, fun _ e => e, fun e => (h2 e).1⟩, fun hq E w fp _ v hv => ?_⟩
          cases hv
          rw [(h2 hq).2]
          exact .v x
        | _ => exact h.elim
      | ptr j o =>
        cases src with
        | ptr i o' =>
          simp only at h
          split at h
          · rename_i hb
            obtain rfl := Nat.eq_of_beq_eq_true hb
            obtain ⟨m', h1, h2, h3, hz⟩ := bindM_spec h
            refine ⟨m', bs, fs, q, h1, ⟨h2, fun _ e => e, fun _ e => e, fun e => e⟩, fun hq E w fp _ v hv => ?_⟩
            cases hv with
            | ptr _ _ s hs => exact .ptr j o s (by simp [envF, hz, h3, hs])
          · exact h.elim
        | _ => exact h.elim
      | elp _ _ _ _ => exact h.elim
      | unkB _ => exact h.elim
      | rop b cs o =>
        cases src with
        | rop b' cs' o' =>
          simp only at h
          split at h
          · exact h.elim
          · rename_i hbb
            split at h
            · rename_i hb
              obtain rfl := Nat.eq_of_beq_eq_true hb
              obtain ⟨m', bs', fs', q', h1, h2, h3, h4⟩ := ih2 _ _ _ _ _ _ _ h
              refine ⟨m', bs', fs', q', h1, h2, fun hq E w fp hl v hv => ?_⟩
              cases hv with
              | rop _ _ _ k o1 u hbk hc hs =>
                refine .rop b cs o k o1 u ?_ (fun j hj => hc j (by omega)) (fun j sv hj => ?_)
                · refine (envF_ok hbk).imp id (fun ⟨e1, e2⟩ => ⟨?_, e2⟩)
                  subst e1
                  cases b <;> simp_all
                · have hlt : j < cs'.length := by
                    have := (List.getElem?_eq_some_iff.1 hj).1; omega
                  exact h4 j sv cs'[j] hj (by simp [hlt]) hq E w fp hl _ (hs j cs'[j] (by simp [hlt]))
            · exact h.elim
        | ptr i off =>
          dsimp only at h
          cases o with
          | succ o => exact h.elim
          | zero =>
            dsimp only at h
            cases hf : find M i with
            | cells te cs2 =>
              rw [hf] at h
              dsimp only at h
              cases hcut : cutS cs2 off cs.length with
              | none => rw [hcut] at h; exact h.elim
              | some l' =>
                rw [hcut] at h
                dsimp only at h
                obtain ⟨m', bs', fs', q', h1, h2, h3, h4⟩ := ih2 _ _ _ _ _ _ _ h
                obtain ⟨c1, c2⟩ := cutS_spec cs2 off _ l' hcut
                have key : ∀ bs2 fs2, (∀ i, i ∈ bs' → i ∈ bs2) → (∀ i, i ∈ fs' → i ∈ fs2) → (if b = true then i ∈ bs2 else i ∈ fs2) → Good1 M (.rop b cs 0) (.ptr i off) m' bs2 fs2 q' := by
                  intro bs2 fs2 hb2 hf2 hmem hq E w fp hl v hv
                  have hent := hl.2 i (by cases b; exact .inr (by simpa using hmem); exact .inl (by simpa using hmem))
                  rw [hf] at hent
                  obtain ⟨s', arr, fz, e1, e2, e3, e4, e5, e6⟩ := hent
                  cases hv with
                  | ptr _ _ s hs =>
                    obtain rfl := Option.some.inj (hs.symm.trans e1)
                    have hsub : ∀ m, m < cs.length → off + m < arr.size := fun m hm => by
                      have := c2 m hm
                      rw [e5]
                      have hlt : m < l'.length := by omega
                      rw [show l'[m]? = some l'[m] by simp [hlt]] at this
                      exact (List.getElem?_eq_some_iff.1 this).1
                    refine .rop b cs 0 s.blk off (fun m => arr.getD (off + m) undef) ?_ (fun m hm => ?_) (fun j sv hj => ?_)
                    · cases b with
                      | true => exact .inr ⟨rfl, .inr ⟨i, by simpa using hmem, (e2 _).2 rfl⟩⟩
                      | false => exact .inl (.inr ⟨i, by simpa using hmem, (e2 _).2 rfl⟩)
                    · simp [World.cell?, e3, hsub m hm]
                    · have hlc := (List.getElem?_eq_some_iff.1 hj).1
                      have hlt : j < l'.length := by omega
                      have hc := c2 j hlc
                      rw [show l'[j]? = some l'[j] by simp [hlt]] at hc
                      obtain ⟨u, hu, hsat⟩ := e6 _ _ hc
                      have : arr.getD (off + j) undef = u := by simp [hu]
                      rw [this]
                      refine (h4 _ _ _ hj (by simp [hlt]) hq E w fp ⟨hl.1, fun i hi => hl.2 i (hi.imp (hb2 i) (hf2 i))⟩ u hsat).stay ?_
                      exact ⟨fun j s hs => hs, fun k hk => hk.imp id (fun ⟨i, a, b⟩ => ⟨i, hf2 i a, b⟩), fun k hk => hk.imp id (fun ⟨i, a, b⟩ => ⟨i, hb2 i a, b⟩)⟩
                cases b with
                | true => exact ⟨m', _, fs', _, h1, ⟨h2.m, fun i e => List.mem_cons_of_mem _ (h2.bs i e), h2.fs, h2.q⟩, key _ _ (fun i e => List.mem_cons_of_mem _ e) (fun i e => e) (by simp)⟩
                | false => exact ⟨m', bs', _, _, h1, ⟨h2.m, h2.bs, fun i e => List.mem_cons_of_mem _ (h2.fs i e), h2.q⟩, key _ _ (fun i e => e) (fun i e => List.mem_cons_of_mem _ e) (by simp)⟩
            | _ => rw [hf] at h; exact h.elim
        | _ => exact h.elim
      | sl j =>
        cases src with
        | sl i =>
          obtain ⟨m', h1, h2, h3, hz⟩ := bindM_spec h
          refine ⟨m', bs, fs, q, h1, ⟨h2, fun _ e => e, fun _ e => e, fun e => e⟩, fun hq E w fp _ v hv => ?_⟩
          cases hv with
          | sl _ s hs => exact .sl j s (by simp [envF, hz, h3, hs])
        | v y =>
          obtain ⟨hy, h'⟩ := nilV_spec (A := nilM j m fun m => K m bs fs q) h
          subst hy
          obtain ⟨m', i, h1, h2, h3, hb, hz⟩ := nilM_spec h'
          refine ⟨m', bs, fs, q, h1, ⟨h2, fun _ e => e, fun _ e => e, fun e => e⟩, fun hq E w fp hl v hv => ?_⟩
          cases hv
          exact .sl j nilSlot (by simp [envF, hz, h3, hl.1 i hb])
        | _ => exact h.elim
      | slc j o l c =>
        cases src with
        | slc i o' l' c' =>
          simp only at h
          split at h
          · rename_i hb
            simp only [Bool.and_eq_true] at hb
            obtain rfl := Nat.eq_of_beq_eq_true hb.1.1
            obtain rfl := Nat.eq_of_beq_eq_true hb.1.2
            obtain rfl := Nat.eq_of_beq_eq_true hb.2
            obtain ⟨m', h1, h2, h3, hz⟩ := bindM_spec h
            refine ⟨m', bs, fs, q, h1, ⟨h2, fun _ e => e, fun _ e => e, fun e => e⟩, fun hq E w fp _ v hv => ?_⟩
            cases hv with
            | slc _ _ _ _ s hs => exact .slc j o l c s (by simp [envF, hz, h3, hs])
          · exact h.elim
        | _ => exact h.elim
      | slv j z l n =>
        cases src with
        | slv i z' l' n' =>
          simp only at h
          split at h
          · rename_i hb
            obtain rfl := Nat.eq_of_beq_eq_true hb
            obtain ⟨m', h1, h2, h3, hz⟩ := bindM_spec h
            refine ⟨m', bs, fs, _, h1, ⟨h2, fun _ e => e, fun _ e => e, fun e => e.tail.tail⟩, fun hq E w fp _ v hv => ?_⟩
            have e1 := hq.head
            have e2 := hq.tail.head
            subst e1
            subst e2
            cases hv with
            | slv _ _ _ _ s hs o m c c' A hv hlo hn hm hA => exact .slv j z _ _ s (by simp [envF, hz, h3, hs]) o m c c' A hv hlo hn hm hA
          · exact h.elim
        | _ => exact h.elim
      | ro b t xs =>
        cases src with
        | ro b' t' ys =>
          dsimp only at h
          split at h
          · exact h.elim
          · rename_i hbb
            exact ⟨m, bs, fs, _, h, ⟨fun _ _ e => e, fun _ e => e, fun _ e => e, fun e => e.tail⟩, good_ro (fun e => by subst e; cases b <;> simp_all)⟩
        | v y =>
          obtain ⟨rfl, h⟩ := nilV_spec h
          refine ⟨m, bs, fs, _, h, ⟨fun _ _ e => e, fun _ e => e, fun _ e => e, fun e => e.tail⟩, fun hq E w fp _ v hv => ?_⟩
          obtain ⟨e, he⟩ := ro_inj hq.head
          simp only at he
          subst he
          cases hv
          exact .nil b t _ _
        | sl i =>
          simp only at h
          cases hf : find M i with
          | row te t' ys =>
            rw [hf] at h
            simp only at h
            have key : ∀ bs' fs', (if b = true then i ∈ bs' else i ∈ fs') → Good1 M (.ro b t xs) (.sl i) m bs' fs' ((SV.ro true t' ys = SV.ro true t xs) :: q) := by
              intro bs' fs' hmem hq E w fp hl v hv
              obtain ⟨e, he⟩ := ro_inj hq.head
              subst e
              simp only at he
              subst he
              cases hv with
              | sl _ s hs =>
                have hent := hl.2 i (by cases b; exact .inr (by simpa using hmem); exact .inl (by simpa using hmem))
                rw [hf] at hent
                exact row_ro hent hs hmem
            cases b with
            | true => exact ⟨m, _, fs, _, h, ⟨fun _ _ e => e, fun _ e => List.mem_cons_of_mem _ e, fun _ e => e, fun e => e.tail⟩, key _ _ (by simp)⟩
            | false => exact ⟨m, bs, _, _, h, ⟨fun _ _ e => e, fun _ e => e, fun _ e => List.mem_cons_of_mem _ e, fun e => e.tail⟩, key _ _ (by simp)⟩
          | _ => rw [hf] at h; exact h.elim
        | slc i o l c =>
          simp only at h
          cases hf : find M i with
          | cells te cs =>
            rw [hf] at h
            simp only at h
            cases hle : Nat.ble l c with
            | false => rw [hle] at h; exact h.elim
            | true =>
              rw [hle] at h
              simp only at h
              cases hcut : cutS cs o (l * t.size) with
              | none => rw [hcut] at h; exact h.elim
              | some l' =>
                rw [hcut] at h
                simp only at h
                obtain ⟨m', bs', fs', q', h1, h2, h3, h4⟩ := ih2 _ _ _ _ _ _ _ h
                obtain ⟨c1, c2⟩ := cutS_spec cs o _ l' hcut
                have hlc : l ≤ c := Nat.le_of_ble_eq_true hle
                have key : ∀ bs2 fs2, (∀ i, i ∈ bs' → i ∈ bs2) → (∀ i, i ∈ fs' → i ∈ fs2) → (if b = true then i ∈ bs2 else i ∈ fs2) → Good1 M (.ro b t xs) (.slc i o l c) m' bs2 fs2 q' := by
                  intro bs2 fs2 hb2 hf2 hmem hq E w fp hl v hv
                  have hlen : xs.length = l := (h2.q hq).head
                  have hent := hl.2 i (by cases b; exact .inr (by simpa using hmem); exact .inl (by simpa using hmem))
                  rw [hf] at hent
                  obtain ⟨s', arr, fz, e1, e2, e3, e4, e5, e6⟩ := hent
                  cases hv with
                  | slc _ _ _ _ s hs =>
                    obtain rfl := Option.some.inj (hs.symm.trans e1)
                    subst hlen
                    have hsub : ∀ m, m < xs.length * t.size → o + m < arr.size := fun m hm => by
                      have := c2 m hm
                      rw [e5]
                      have hlt : m < l'.length := by omega
                      rw [show l'[m]? = some l'[m] by simp [hlt]] at this
                      exact (List.getElem?_eq_some_iff.1 this).1
                    refine .ro b t xs s.blk o c (fun m => arr.getD (o + m) undef) ?_ hlc (fun m hm => ?_) (fun i2 x j sv hi hj => ?_)
                    · cases b with
                      | true => exact .inr ⟨rfl, .inr ⟨i, by simpa using hmem, (e2 _).2 rfl⟩⟩
                      | false => exact .inl (.inr ⟨i, by simpa using hmem, (e2 _).2 rfl⟩)
                    · simp [World.cell?, e3, hsub m hm]
                    · have hjt : j < t.size := by
                        have := (List.getElem?_eq_some_iff.1 hj).1
                        rwa [enc_length] at this
                      have hi2 := (List.getElem?_eq_some_iff.1 hi).1
                      have hm : i2 * t.size + j < xs.length * t.size := by
                        have : (i2 + 1) * t.size ≤ xs.length * t.size := Nat.mul_le_mul_right _ hi2
                        rw [Nat.add_mul] at this; omega
                      have hg := flatF_get (enc t) t.size (enc_length t) xs i2 j x hi hjt
                      rw [hj] at hg
                      have hlt : i2 * t.size + j < l'.length := by omega
                      have hc := c2 _ hm
                      rw [show l'[i2 * t.size + j]? = some l'[i2 * t.size + j] by simp [hlt]] at hc
                      obtain ⟨u, hu, hsat⟩ := e6 _ _ hc
                      have : arr.getD (o + (i2 * t.size + j)) undef = u := by simp [hu]
                      rw [this]
                      refine (h4 _ _ _ hg (by simp [hlt]) hq E w fp ⟨hl.1, fun i hi => hl.2 i (hi.imp (hb2 i) (hf2 i))⟩ u hsat).stay ?_
                      exact ⟨fun j s hs => hs, fun k hk => hk.imp id (fun ⟨i, a, b⟩ => ⟨i, hf2 i a, b⟩), fun k hk => hk.imp id (fun ⟨i, a, b⟩ => ⟨i, hb2 i a, b⟩)⟩
                cases b with
                | true => exact ⟨m', _, fs', _, h1, ⟨h2.m, fun i e => List.mem_cons_of_mem _ (h2.bs i e), h2.fs, fun e => (h2.q e).tail⟩, key _ _ (fun i e => List.mem_cons_of_mem _ e) (fun i e => e) (by simp)⟩
                | false => exact ⟨m', bs', _, _, h1, ⟨h2.m, h2.bs, fun i e => List.mem_cons_of_mem _ (h2.fs i e), fun e => (h2.q e).tail⟩, key _ _ (fun i e => e) (fun i e => List.mem_cons_of_mem _ e) (by simp)⟩
          | _ => rw [hf] at h; exact h.elim
        | _ => exact h.elim
      | agg l =>
        cases src with
        | agg l' =>
          obtain ⟨m', bs', fs', q', h1, h2, h3, h4⟩ := ih2 _ _ _ _ _ _ _ h
          refine ⟨m', bs', fs', q', h1, h2, fun hq E w fp hl v hv => ?_⟩
          cases hv with
          | agg _ vs u hsz hu hs =>
            refine .agg l vs u (by omega) (fun j hj => hu j (by omega)) (fun j sv hj => ?_)
            have hlt : j < l'.length := by
              have := (List.getElem?_eq_some_iff.1 hj).1; omega
            exact h4 j sv l'[j] hj (by simp [hlt]) hq E w fp hl _ (hs j l'[j] (by simp [hlt]))
        | _ => exact h.elim
      | tuple l =>
        cases src with
        | tuple l' =>
          obtain ⟨m', bs', fs', q', h1, h2, h3, h4⟩ := ih2 _ _ _ _ _ _ _ h
          refine ⟨m', bs', fs', q', h1, h2, fun hq E w fp hl v hv => ?_⟩
          cases hv with
          | tuple _ vs u hsz hu hs =>
            refine .tuple l vs u (by omega) (fun j hj => hu j (by omega)) (fun j sv hj => ?_)
            have hlt : j < l'.length := by
              have := (List.getElem?_eq_some_iff.1 hj).1; omega
            exact h4 j sv l'[j] hj (by simp [hlt]) hq E w fp hl _ (hs j l'[j] (by simp [hlt]))
        | _ => exact h.elim
      | func fn fa fc =>
        cases fn with
        | func f =>
          cases src with
          | func fn' fa' fc' =>
            cases fn' with
            | func f' =>
              simp only at h
              split at h
              · rename_i hb
                obtain rfl := Nat.eq_of_beq_eq_true hb
                obtain ⟨m1, bs1, fs1, q1, h1, h2, h3, h4⟩ := ih2 _ _ _ _ _ _ _ h
                obtain ⟨m2, bs2, fs2, q2, k1, k2, k3, k4⟩ := ih2 _ _ _ _ _ _ _ h1
                refine ⟨m2, bs2, fs2, q2, k1, h2.trans k2, fun hq E w fp hl v hv => ?_⟩
                cases hv with
                | func _ _ _ vf vc uf uc hf hc huf huc hsf hsc =>
                  refine .func _ fa fc vf vc uf uc (by omega) (by omega) (fun j hj => huf j (by omega)) (fun j hj => huc j (by omega)) (fun j sv hj => ?_) (fun j sv hj => ?_)
                  · have hlt : j < fa'.length := by
                      have := (List.getElem?_eq_some_iff.1 hj).1; omega
                    exact (h4 j sv fa'[j] hj (by simp [hlt])).grow k2 hq E w fp hl _ (hsf j fa'[j] (by simp [hlt]))
                  · have hlt : j < fc'.length := by
                      have := (List.getElem?_eq_some_iff.1 hj).1; omega
                    exact k4 j sv fc'[j] hj (by simp [hlt]) hq E w fp hl _ (hsc j fc'[j] (by simp [hlt]))
              · exact h.elim
            | _ => exact h.elim
          | _ => exact h.elim
        | _ => exact h.elim
    · intro tgt src m bs fs q K h
      unfold matL at h
      cases tgt with
      | nil =>
        cases src with
        | nil => exact ⟨m, bs, fs, q, h, .refl _ _ _ _, rfl, fun j t s hj => by simp at hj⟩
        | cons y l' => exact h.elim
      | cons x l =>
        cases src with
        | nil => exact h.elim
        | cons y l' =>
          obtain ⟨m1, bs1, fs1, q1, h1, h2, h3⟩ := ih1 _ _ _ _ _ _ _ h
          obtain ⟨m2, bs2, fs2, q2, k1, k2, k3, k4⟩ := ih2 _ _ _ _ _ _ _ h1
          refine ⟨m2, bs2, fs2, q2, k1, h2.trans k2, by simp [k3], fun j t s hj hs => ?_⟩
          cases j with
          | zero =>
            obtain rfl : x = t := by simpa using hj
            obtain rfl : y = s := by simpa using hs
            exact h3.grow k2
          | succ j => exact k4 j t s (by simpa using hj) (by simpa using hs)

end Go.Eng
