/-
  Words for walks by abstract values: what a value of the machine stands for (numbers, texts, structs, lists that are read, the call's own blocks), and a walk of a function's text over these words alone. No conditions.
-/
import Derived.Test.YthchmjdgepbjpaaDoorRows
import Derived.WalkKit
import Derived.Still
import Derived.Lib.ItoaNum
namespace Go.Proofs.YthchmjdgepbjpaaDoor
open Go.RowKit
set_option linter.unusedSimpArgs false
set_option linter.unusedVariables false

abbrev Bs := List UInt8
/-- a text as a value -/
abbrev S (l : Bs) : Value := .string ⟨l.toArray⟩

/-- what a value stands for -/
inductive V where
  | any
  | und
  | bool (b : Bool)
  | int (k : IntKind) (n : Int)
  | str (l : Bs)
  | val (v : Value)
  | agg (cs : List V)
  | tup (cs : List V)
  | ptr (k off : Nat)
  | nils
  | sl (xs : List (List V))
  | elt (row : List V) (off : Nat)
  | own (k : Nat)
  | oelt (k E i off : Nat)
  | ifc (t : TypeId) (v : V)
  | fn (f : FuncId) (caps : List V)
  | tst (p : Prop)
  | alt (b : Bool) (x y : V)
  | bad
  deriving Inhabited
/-- what one of the call's own blocks holds: cells, or rows of a slice that it may append to -/
inductive Blk where
  | cells (cs : List V)
  | rows (t : TypeId) (xs : List (List V))
  | dead
  | rd (v : V)
  deriving Inhabited
abbrev Env := Nat → V
abbrev Hp := Nat → Option Blk
def Env.set (e : Env) (t : Nat) (v : V) : Env := fun s => match Nat.beq s t with | true => v | false => e s
def Env.put (e : Env) (dst : Option Tmp) (v : V) : Env := match dst with | some t => e.set t v | none => e
def Hp.set (h : Hp) (k : Nat) (b : Option Blk) : Hp := fun s => match Nat.beq s k with | true => b | false => h s

/-- what is known of a type: its cells, its fields (place, size), its elements -/
inductive TI where
  | word (zero : V)
  | struct (fs : List (Nat × Nat × Bool)) (zero : List V)
  | slice (elem : TypeId) (esz : Nat)
  | array (n : Nat) (elem : TypeId) (esz : Nat) (zero : List V)
  deriving Inhabited
/-- kinds of cells that can be held against each other -/
inductive EK where
  | b | n | s
  deriving DecidableEq
structure Tab where
  ti : TypeId → Option TI
  eq : TypeId → Option (List EK)
  /-- is the second type one of the first, an interface? -/
  imp : TypeId → TypeId → Option Bool
  /-- a type's method: the function, and whether it is called with the first cell alone -/
  meth : TypeId → String → Option (FuncId × Bool)
  /-- types that can be compared and are no interface: what == asks of them -/
  cmp : TypeId → Bool
  /-- pointers (to what has a size) that can be compared -/
  cmpP : TypeId → Bool
instance : CoeFun Tab (fun _ => TypeId → Option TI) := ⟨Tab.ti⟩
def TI.cells : TI → Nat
  | .word _ => 1 | .slice _ _ => 1 | .struct _ z => z.length | .array _ _ _ z => z.length
def TI.zero : TI → V
  | .word z => z | .slice _ _ => .nils | .struct _ z => .agg z | .array _ _ _ z => .agg z
def V.cells : V → List V
  | .agg cs => cs | v => [v]
/-- a constant -/
def V.ofAtom : Value → V
  | .bool b => .bool b
  | .int k n => .int k n
  | .string s => .str s.data.toList
  | .slice none 0 0 => .nils
  | .pointer none => .val (.pointer none)
  | .nilIface => .val .nilIface
  | .nilFunc => .val .nilFunc
  | .map none => .val (.map none)
  | _ => .any
def V.ofConst : Value → V
  | .agg cs => match cs.toList.all (·.oneCell') with | true => .agg (cs.toList.map V.ofAtom) | false => .any
  | v => V.ofAtom v
/-- package-level variables that are never written: what they hold -/
def globK : Nat → Option (List V)
  | 0 => some [.ifc 59 (.agg [.val (.pointer (some ⟨4, 26, none⟩))])]
  | _ => none
/-- tables: package-level variables that are never written: all their cells -/
structure TabT where
  ts : List Int
  len : ts.length = 20
  ok : ∀ t ∈ ts, 0 ≤ t ∧ t ≤ 18446744073709551615
def tabK [Inhabited TabT] : Nat → Option (Array Value)
  | 1 => some ((default : TabT).ts.map fun z => Value.int .u64 z).toArray
  | _ => none
def Env.rd (e : Env) : Operand → V
  | .tmp t => e t
  | .const v => V.ofConst v
  | .global g => match globK g with | some cs => .elt cs 0 | none => .any
  | .func f => .fn f []


/-- a test: which way -/
inductive Br : Bool → Prop → Prop → Prop
  | t {p q : Prop} (h : p) : Br true p q
  | f {p q : Prop} (h : q) : Br false p q
theorem Br.mk {b : Bool} {p q : Prop} (hp : b = true → p) (hq : b = false → q) : Br b p q := by
  cases b
  · exact .f (hq rfl)
  · exact .t (hp rfl)

/-- it can't be false -/
theorem Br.mkT {b : Bool} {p q : Prop} (hq : b = false → False) (hp : b = true → p) : Br b p q := by
  cases b
  · exact (hq rfl).elim
  · exact .t (hp rfl)
theorem Br.mkF {b : Bool} {p q : Prop} (hp : b = true → False) (hq : b = false → q) : Br b p q := by
  cases b
  · exact .f (hq rfl)
  · exact (hp rfl).elim
/-- the first n of a list, one by one, made plain -/
def takeK : Nat → List V → (List V → Prop) → Prop
  | 0, _, k => k []
  | n + 1, l, k => match l with | x :: r => takeK n r fun s => k (x :: s) | [] => False
def dropK : Nat → List V → (List V → Prop) → Prop
  | 0, l, k => k l
  | n + 1, l, k => match l with | _ :: r => dropK n r k | [] => False
def nthK {α : Type} : Nat → List α → (α → Prop) → Prop
  | 0, l, k => match l with | x :: _ => k x | [] => False
  | n + 1, l, k => match l with | _ :: r => nthK n r k | [] => False
/-- part of a struct's cells, as a value: one bare cell, or 'size' cells -/
def partK (agg : Bool) (size : Nat) (cs : List V) (off : Nat) (k : V → Prop) : Prop :=
  match agg with
  | false => nthK off cs k
  | true => dropK off cs fun r => takeK size r fun s => k (.agg s)
def TI.isAgg : TI → Bool
  | .word _ | .slice _ _ => false
  | .struct _ _ | .array _ _ _ _ => true
def writeK (cs : List V) : Nat → List V → (List V → Prop) → Prop
  | 0, [], k => k cs
  | 0, v :: vs, k => match cs with | _ :: r => writeK r 0 vs fun s => k (v :: s) | [] => False
  | n + 1, vs, k => match cs with | c :: r => writeK r n vs fun s => k (c :: s) | [] => False
/-- a value of an interface type, whichever it is -/
def V.ifcB : Nat → V → Bool
  | 0, _ => false
  | n + 1, v => match v with
    | .ifc _ _ => true
    | .val z => (match z with | .nilIface => true | _ => false)
    | .alt _ x y => (match V.ifcB n x with | true => V.ifcB n y | false => false)
    | _ => false
/-- is it nil? -/
def altBK (b p q : Bool) (k : Bool → Prop) : Prop := match p with
  | true => (match q with | true => k true | false => k b)
  | false => (match q with | true => k (!b) | false => k false)
def nilK : Nat → V → (Bool → Prop) → Prop
  | 0, _, _ => False
  | n + 1, v, k => match v with
    | .ifc _ _ => k false
    | .val z => (match z with | .nilIface => k true | _ => False)
    | .alt b x y => nilK n x fun p => nilK n y fun q => altBK b p q k
    | _ => False
/-- a value that may lie inside another one: no slice of the call's own -/
def V.inner : V → Bool
  | .oelt _ _ _ _ | .any | .und | .tup _ | .tst _ | .bad => false
  | .alt b x y => V.ifcB 5 (.alt b x y)
  | _ => true
mutual
/-- does it name none of the call's own blocks? (looked for n levels deep) -/
def V.kl : Nat → V → Bool
  | 0, _ => false
  | n + 1, v => match v with
    | .own _ => false
    | .oelt _ _ _ _ => false
    | .ptr _ _ => false
    | .agg cs => V.klL n cs
    | .tup cs => V.klL n cs
    | .fn _ cs => V.klL n cs
    | .ifc _ v => V.kl n v
    | .alt _ x y => match V.kl n x with | true => V.kl n y | false => false
    | _ => true
def V.klL : Nat → List V → Bool
  | 0, _ => false
  | _ + 1, [] => true
  | n + 1, v :: vs => match V.kl n v with | true => V.klL n vs | false => false
end
def klK (v : V) (p : Prop) : Prop := match V.kl 40 v with | true => p | false => False
def kllK (v : List V) (p : Prop) : Prop := match V.klL 40 v with | true => p | false => False
/-- the value made plain; None of its own slices -/
def innerK (v : V) (k : V → Prop) : Prop :=
  match v with
  | .own a => k (.own a)
  | .oelt _ _ _ _ => False
  | .alt b x y => (match V.ifcB 5 (.alt b x y) with | true => k (.alt b x y) | false => False)
  | .bad => False
  | .any => False
  | .und => False
  | .bool b => k (.bool b)
  | .int i n => k (.int i n)
  | .str l => k (.str l)
  | .val x => k (.val x)
  | .agg cs => k (.agg cs)
  | .tup _ => False
  | .tst _ => False
  | .ptr a o => k (.ptr a o)
  | .nils => k .nils
  | .sl xs => k (.sl xs)
  | .elt r o => k (.elt r o)
  | .ifc t x => k (.ifc t x)
  | .fn f c => k (.fn f c)
def forceK (v : V) (k : V → Prop) : Prop :=
  match v with
  | .own a => k (.own a)
  | .oelt a E i o => k (.oelt a E i o)
  | .any => k .any
  | .und => k .und
  | .bad => k .bad
  | .alt b x y => k (.alt b x y)
  | .tst p => k (.tst p)
  | .bool b => k (.bool b)
  | .int i n => k (.int i n)
  | .str l => k (.str l)
  | .val x => k (.val x)
  | .agg cs => k (.agg cs)
  | .tup cs => k (.tup cs)
  | .ptr a o => k (.ptr a o)
  | .nils => k .nils
  | .sl xs => k (.sl xs)
  | .elt r o => k (.elt r o)
  | .ifc t x => k (.ifc t x)
  | .fn f c => k (.fn f c)
def forcesK (e : Env) : List Operand → (List V → Prop) → Prop
  | [], k => k []
  | x :: r, k => forceK (e.rd x) fun v => forcesK e r fun vs => k (v :: vs)

/-- two numbers that are one: seen by computing -/
def natK (a b : Nat) (p : Prop) : Prop := match Nat.beq a b with | true => p | false => False
def in64 (n : Int) : Prop := -9223372036854775808 ≤ n ∧ n ≤ 9223372036854775807
def sameK : IntKind → IntKind → Bool
  | .i8, .i8 | .i16, .i16 | .i32, .i32 | .i64, .i64 | .u8, .u8 | .u16, .u16 | .u32, .u32 | .u64, .u64 => true
  | _, _ => false
def is64 : IntKind → Bool
  | .i64 => true | _ => false
def blt (a b : Bs) : Bool := Op.bytesLess a b
/-- numbers wrap round; of an int64 it is said whether it does -/
inductive WrapsOk : Prop
  | mk
def wrapK (k : IntKind) (n : Int) (K : V → Prop) : Prop :=
  match is64 k with
  | true => (in64 n ∧ K (.int .i64 n)) ∨ (WrapsOk ∧ K (.int .i64 (IntKind.wrap .i64 n)))
  | false => K (.int k (k.wrap n))
def limK : IntKind → Int
  | .i8 => 127 | .i16 => 32767 | .i32 => 2147483647 | .i64 => 9223372036854775807
  | .u8 => 255 | .u16 => 65535 | .u32 => 4294967295 | .u64 => 18446744073709551615
def bitsK (k : IntKind) (a b : Int) (p : Prop) : Prop := (0 ≤ a ∧ a ≤ limK k ∧ 0 ≤ b ∧ b ≤ limK k) ∧ p
def shiftK (op : BinOp) (k : IntKind) (a b : Int) (K : V → Prop) : Prop :=
  match op with
  | .shl => (0 ≤ b ∧ b ≤ 64) ∧ wrapK k (a * 2 ^ b.toNat) K
  | .shr => (0 ≤ a ∧ 0 ≤ b ∧ b ≤ k.bits) ∧ K (.int k (a / 2 ^ b.toNat))
  | _ => False
def intK (op : BinOp) (k : IntKind) (a b : Int) (K : V → Prop) : Prop :=
  match op with
  | .and => bitsK k a b (K (.int k ((a.toNat &&& b.toNat : Nat) : Int)))
  | .or => bitsK k a b (K (.int k ((a.toNat ||| b.toNat : Nat) : Int)))
  | .xor => bitsK k a b (K (.int k ((a.toNat ^^^ b.toNat : Nat) : Int)))
  | .add => wrapK k (a + b) K
  | .sub => wrapK k (a - b) K
  | .mul => wrapK k (a * b) K
  | .quo => match is64 k with | true => (0 ≤ a ∧ 0 < b ∧ a ≤ 9223372036854775807) ∧ K (.int .i64 (a / b)) | false => (0 ≤ a ∧ 0 < b) ∧ K (.int k (k.wrap (a / b)))
  | .rem => (0 ≤ a ∧ 0 < b) ∧ K (.int k (a % b))
  | .eql => K (.bool (decide (a = b)))
  | .neq => K (.bool (!decide (a = b)))
  | .lss => K (.bool (decide (a < b)))
  | .leq => K (.bool (decide (a ≤ b)))
  | .gtr => K (.bool (decide (b < a)))
  | .geq => K (.bool (decide (b ≤ a)))
  | _ => False
def strK (op : BinOp) (a b : Bs) (K : V → Prop) : Prop :=
  match op with
  | .add => a.length + b.length ≤ maxLen ∧ K (.str (a ++ b))
  | .eql => K (.bool (decide (a = b)))
  | .neq => K (.bool (!decide (a = b)))
  | .lss => K (.bool (blt a b))
  | .leq => K (.bool (!blt b a))
  | .gtr => K (.bool (blt b a))
  | .geq => K (.bool (!blt a b))
  | _ => False
/-- cells, one by one -/
def eqK : List EK → List V → List V → (Bool → Prop) → Prop
  | [], [], [], K => K true
  | .b :: ks, .bool a :: xs, .bool b :: ys, K => eqK ks xs ys fun r => K ((a == b) && r)
  | .n :: ks, .int k a :: xs, .int k' b :: ys, K => match sameK k k' with | true => eqK ks xs ys fun r => K (decide (a = b) && r) | false => False
  | .s :: ks, .str a :: xs, .str b :: ys, K => eqK ks xs ys fun r => K (decide (a = b) && r)
  | _, _, _, _ => False
def binK (op : BinOp) (ti : Option TI) (eq : Option (List EK)) (x y : V) (K : V → Prop) : Prop :=
  match x, y with
  | .agg xs, .agg ys => match eq with
    | some ks => match op with
      | .eql => eqK ks xs ys fun r => K (.bool r)
      | .neq => eqK ks xs ys fun r => K (.bool (!r))
      | _ => False
    | none => False
  | .bool a, .bool b => match ti with
    | some (.word (.bool _)) => match op with | .eql => K (.bool (a == b)) | .neq => K (.bool (!(a == b))) | _ => False
    | _ => False
  | .int k a, .int k' b => match op with
    | .shl => shiftK .shl k a b K
    | .shr => shiftK .shr k a b K
    | op => match sameK k k' with | true => intK op k a b K | false => False
  | .str a, .str b => strK op a b K
  | .sl xs, .nils => match ti with
    | some (.slice _ _) => match op with | .eql => K (.tst (xs = [])) | _ => False
    | _ => False
  | .nils, .nils => match ti with
    | some (.slice _ _) => match op with | .eql => K (.bool true) | _ => False
    | _ => False
  | _, _ => False
def minS (a b : Bs) : Bs := if blt b a then b else a
def maxS (a b : Bs) : Bs := if blt a b then b else a
def lenK (ti : Option TI) (v : V) (h : Hp) (K : V → List Nat → Prop) : Prop :=
  match ti with
  | some (.word (.str _)) => match v with
    | .str l => K (.int .i64 l.length) []
    | _ => False
  | some (.slice _ _) => match v with
    | .sl xs => K (.int .i64 xs.length) []
    | .nils => K (.int .i64 0) []
    | .own c => match h c with | some (.rows _ xs) => K (.int .i64 xs.length) [c] | _ => False
    | _ => False
  | _ => False
/-- places of a list: fields or rows -/
def fieldK (fs : List (Nat × Nat × Bool)) (f : Nat) (k : Nat → Nat → Bool → Prop) : Prop := nthK f fs fun p => match p with | (o, s, a) => k o s a
def buildK (e : Env) (fs : List (Nat × Nat × Bool)) : List (Nat × Operand) → List V → (List V → Prop) → Prop
  | [], cs, k => k cs
  | (i, x) :: r, cs, k => fieldK fs i fun off size _ => innerK (e.rd x) fun v => natK v.cells.length size (writeK cs off v.cells fun cs' => buildK e fs r cs' k)
/-- places of an array of words -/
def onesF : Nat → Nat → List (Nat × Nat × Bool)
  | _, 0 => []
  | k, n + 1 => (k, 1, false) :: onesF (k + 1) n
def rowsK (e : Env) (esz : Nat) : Nat → List (Nat × Operand) → (List (List V) → Prop) → Prop
  | _, [], k => k []
  | n, (i, x) :: r, k => match Nat.beq i n with
    | true => innerK (e.rd x) fun v => klK v (natK v.cells.length esz (rowsK e esz (n + 1) r fun s => k (v.cells :: s)))
    | false => False
/-- the bounds of s[lo:hi], where no capacity is made use of -/
def boundsK (e : Env) (lo hi : Option Operand) (n : Nat) (k : Nat → Nat → Prop) : Prop :=
  match lo, hi with
  | none, none => k 0 n
  | some x, none => match e.rd x with | .int _ a => (0 ≤ a ∧ a ≤ n) ∧ k a.toNat n | _ => False
  | none, some y => match e.rd y with | .int _ b => (0 ≤ b ∧ b ≤ n) ∧ k 0 b.toNat | _ => False
  | some x, some y => match e.rd x with
    | .int _ a => match e.rd y with | .int _ b => (0 ≤ a ∧ a ≤ b ∧ b ≤ n) ∧ k a.toNat b.toNat | _ => False
    | _ => False

/-- bytes as rows -/
def encB (b : UInt8) : List V := [.int .u8 (b.toNat : Int)]
/-- rows of bytes, and the text that they are -/
inductive ByteRows : List (List V) → Bs → Prop
  | nil : ByteRows [] []
  | cons {n : Int} {r : List (List V)} {l : Bs} (h : ByteRows r l) : ByteRows ([.int .u8 n] :: r) (UInt8.ofNat n.toNat :: l)
theorem ByteRows.map : ∀ (l : Bs), ByteRows (l.map encB) l
  | [] => .nil
  | b :: l => by
    have := ByteRows.cons (n := (b.toNat : Int)) (ByteRows.map l)
    simpa [encB] using this
theorem ByteRows.rep : ∀ (n : Nat), ByteRows (List.replicate n [.int .u8 0]) (List.replicate n 0)
  | 0 => .nil
  | n + 1 => ByteRows.cons (n := 0) (ByteRows.rep n)
theorem ByteRows.app {r r' : List (List V)} {l l' : Bs} (h : ByteRows r l) (h' : ByteRows r' l') : ByteRows (r ++ r') (l ++ l') := by
  induction h with
  | nil => exact h'
  | cons _ ih => exact .cons ih

/-! ### heaps, footprints -/
def Hp.sets (h : Hp) : List (Nat × Blk) → Hp
  | [] => h
  | (k, b) :: r => Hp.sets (h.set k (some b)) r
def hpL : List Blk → Hp
  | [], _ => none
  | b :: _, 0 => some b
  | _ :: r, n + 1 => hpL r n
/-- an operation goes on with: what it yields, the blocks that it has looked at, those that it has written -/
abbrev FK := V → List Nat → List (Nat × Blk) → Prop

/-! ### names of blocks, as a contract has them and as its caller has them -/
def nthN : List Nat → Nat → Option Nat
  | [], _ => none
  | k :: _, 0 => some k
  | _ :: r, n + 1 => nthN r n
mutual
def V.ren (σ : List Nat) : Nat → V → V
  | 0, _ => .bad
  | n + 1, v => match v with
    | .own k => match nthN σ k with | some j => .own j | none => .bad
    | .ptr k o => match nthN σ k with | some j => .ptr j o | none => .bad
    | .oelt k E i o => match nthN σ k with | some j => .oelt j E i o | none => .bad
    | .agg cs => .agg (V.renL σ n cs)
    | .tup cs => .tup (V.renL σ n cs)
    | .fn f cs => .fn f (V.renL σ n cs)
    | .ifc t u => .ifc t (V.ren σ n u)
    | .alt b x y => .alt b (V.ren σ n x) (V.ren σ n y)
    | v => v
def V.renL (σ : List Nat) : Nat → List V → List V
  | 0, _ => [.bad]
  | _ + 1, [] => []
  | n + 1, v :: vs => V.ren σ n v :: V.renL σ n vs
end
def Blk.ren (σ : List Nat) : Blk → Blk
  | .cells cs => .cells (V.renL σ 60 cs)
  | .rows t xs => .rows t xs
  | .dead => .dead
  | .rd v => .rd v
mutual
/-- the same, one by one, made plain -/
def renK (σ : List Nat) : Nat → V → (V → Prop) → Prop
  | 0, _, _ => False
  | n + 1, v, k => match v with
    | .own a => match nthN σ a with | some j => k (.own j) | none => False
    | .ptr a o => match nthN σ a with | some j => k (.ptr j o) | none => False
    | .oelt a E i o => match nthN σ a with | some j => k (.oelt j E i o) | none => False
    | .agg cs => renLK σ n cs fun cs => k (.agg cs)
    | .tup cs => renLK σ n cs fun cs => k (.tup cs)
    | .fn f cs => renLK σ n cs fun cs => k (.fn f cs)
    | .ifc t u => renK σ n u fun u => k (.ifc t u)
    | .alt b x y => renK σ n x fun x => renK σ n y fun y => k (.alt b x y)
    | .bad => False
    | .any => k .any
    | .und => k .und
    | .tst p => k (.tst p)
    | .bool b => k (.bool b)
    | .int i n => k (.int i n)
    | .str l => k (.str l)
    | .val x => k (.val x)
    | .nils => k .nils
    | .sl xs => k (.sl xs)
    | .elt r o => k (.elt r o)
def renLK (σ : List Nat) : Nat → List V → (List V → Prop) → Prop
  | 0, _, _ => False
  | _ + 1, [], k => k []
  | n + 1, v :: vs, k => renK σ n v fun v => renLK σ n vs fun vs => k (v :: vs)
end
def renBK (σ : List Nat) (b : Blk) (k : Blk → Prop) : Prop := match b with
  | .cells cs => renLK σ 60 cs fun cs => k (.cells cs)
  | .rows t xs => k (.rows t xs)
  | .dead => k .dead
  | .rd v => k (.rd v)
/-- the blocks of a contract as its caller has them -/
def renBsK (σ : List Nat) : List Nat → List Blk → (List (Nat × Blk) → Prop) → Prop
  | [], [], k => k []
  | j :: js, b :: bs, k => renBK σ b fun b => renBsK σ js bs fun r => k ((j, b) :: r)
  | _, _, _ => False
/-- one by one the same -/
def eqsK : List V → List V → Prop → Prop
  | [], [], p => p
  | x :: xs, u :: us, p => forceK x fun x => x = u ∧ eqsK xs us p
  | _, _, _ => False
/-- the blocks js hold what a contract says, and p -/
def hasBk (h : Hp) (σ : List Nat) : List Nat → List Blk → Prop → Prop
  | [], [], p => p
  | j :: js, b :: bs, p => match h j with
    | none => False
    | some c => match b with
      | .dead => hasBk h σ js bs p
      | .cells ds => match c with | .cells cs => renLK σ 60 ds fun us => eqsK cs us (hasBk h σ js bs p) | _ => False
      | .rows t' ys => match c with | .rows t xs => natK t t' (xs = ys ∧ hasBk h σ js bs p) | _ => False
      | .rd u => match c with | .rd v => forceK v fun v => v = u ∧ hasBk h σ js bs p | _ => False
  | _, _, _ => False
def distinctB : List Nat → Bool
  | [] => true
  | k :: r => !r.any (Nat.beq k) && distinctB r
/-- names for new blocks -/
def freshN (c : Nat) : Nat → Nat → List Nat
  | _, 0 => []
  | i, n + 1 => (1000000 * (i + 1) + c) :: freshN c (i + 1) n
def noneB (h : Hp) : List Nat → Prop
  | [] => True
  | k :: r => h k = none ∧ noneB h r
def appK : List V → List V → (List V → Prop) → Prop
  | [], l, k => k l
  | x :: r, l, k => appK r l fun s => k (x :: s)
def appN : List Nat → List Nat → List Nat
  | [], l => l
  | x :: r, l => x :: appN r l
def lenN {α : Type} : List α → Nat
  | [] => 0
  | _ :: r => lenN r + 1
/-- what is true or false is decided -/
def altK (v : V) (k : V → Prop) : Prop := match v with
  | .alt b x y => Br b (forceK x k) (forceK y k)
  | v => forceK v k
mutual
/-- does it name no memory at all? -/
def V.flat : Nat → V → Bool
  | 0, _ => false
  | n + 1, v => match v with
    | .own _ | .oelt _ _ _ _ | .ptr _ _ | .sl _ | .elt _ _ | .alt _ _ _ | .bad => false
    | .agg cs => V.flatL n cs
    | .tup cs => V.flatL n cs
    | .fn _ cs => V.flatL n cs
    | .ifc _ v => V.flat n v
    | _ => true
def V.flatL : Nat → List V → Bool
  | 0, _ => false
  | _ + 1, [] => true
  | n + 1, v :: vs => match V.flat n v with | true => V.flatL n vs | false => false
end
def flatK (v : V) (p : Prop) : Prop := match V.flat 40 v with | true => p | false => False
/-- the blocks ks are given up, and p -/
def rdAllK (h : Hp) : List Nat → Prop → Prop
  | [], p => p
  | a :: r, p => match h a with | some (.rd _) => rdAllK h r p | _ => False
/-- no memory lies in it, or what was lent is given up -/
def flatRK (h : Hp) (ks : List Nat) (v : V) (p : Prop) : Prop := match V.flat 40 v with | true => p | false => rdAllK h ks p
mutual
/-- a value as it is lent to a call that only reads -/
def lendK (h : Hp) : Nat → V → (V → List Nat → Prop) → Prop
  | 0, _, _ => False
  | n + 1, v, k => match v with
    | .own a => match h a with | some (.rows _ xs) => k (.sl xs) [a] | some (.rd u) => forceK u fun u => k u [a] | _ => False
    | .ptr a off => match h a with
      | some (.cells cs) => lendLK h n cs fun cs ks => k (.elt cs off) (a :: ks)
      | some (.rd u) => match u with | .elt cs 0 => k (.elt cs off) [a] | _ => False
      | _ => False
    | .oelt a E i off => match h a with | some (.rows _ xs) => i < xs.length ∧ ∀ row, xs[i]? = some row → row.length = E ∧ k (.elt row off) [a] | _ => False
    | .agg cs => lendLK h n cs fun cs ks => k (.agg cs) ks
    | .tup _ => False
    | .fn f cs => lendLK h n cs fun cs ks => k (.fn f cs) ks
    | .ifc t u => lendK h n u fun u ks => k (.ifc t u) ks
    | .alt b x y => lendK h n x fun x ks => lendK h n y fun y js => k (.alt b x y) (appN ks js)
    | .bad => False
    | .any => k .any []
    | .und => k .und []
    | .tst p => k (.tst p) []
    | .bool b => k (.bool b) []
    | .int i n => k (.int i n) []
    | .str l => k (.str l) []
    | .val x => k (.val x) []
    | .nils => k .nils []
    | .sl xs => k (.sl xs) []
    | .elt r o => k (.elt r o) []
def lendLK (h : Hp) : Nat → List V → (List V → List Nat → Prop) → Prop
  | 0, _, _ => False
  | _ + 1, [], k => k [] []
  | n + 1, v :: vs, k => lendK h n v fun v ks => lendLK h n vs fun vs js => k (v :: vs) (appN ks js)
end
/-- lists of one's own among the arguments are given up: from here on they are only read -/
def frzK (h : Hp) : List V → (List V → List (Nat × Blk) → Prop) → Prop
  | [], k => k [] []
  | v :: vs, k => match v with
    | .own a => match h a with
      | some (.rows _ xs) => frzK (h.set a (some (.rd (.sl xs)))) vs fun vs fs => k (.sl xs :: vs) ((a, .rd (.sl xs)) :: fs)
      | some (.rd u) => frzK h vs fun vs fs => k (u :: vs) ((a, .rd u) :: fs)
      | _ => False
    | v => klK v (frzK h vs fun vs fs => k (v :: vs) fs)
def keysOf : List (Nat × Blk) → List Nat
  | [] => []
  | (k, _) :: r => k :: keysOf r
/-- a slot that holds a list that has been given up -/
def viewK (h : Hp) (v : V) (k : V → List Nat → Prop) : Prop := forceK v fun v => match v with
  | .own a => match h a with | some (.rd u) => forceK u fun u => k u [a] | _ => k (.own a) []
  | v => k v []

def appW : List (Nat × Blk) → List (Nat × Blk) → List (Nat × Blk)
  | [], l => l
  | x :: r, l => x :: appW r l
/-- the contracts: those that make memory alone; those that write -/
structure Cons where
  p : FuncId → List V → V → Prop
  m : FuncId → List V → List Blk → V → List Blk → Prop
abbrev callM (C : Cons) (h : Hp) (c : Nat) (f : FuncId) (vs : List V) (K : FK) : Prop :=
  ∃ (σ : List Nat) (args : List V) (pre : List Blk) (r : V) (post : List Blk), C.m f args pre r post ∧
    (renLK σ 60 args fun us => eqsK vs us (hasBk h σ σ pre (distinctB σ = true ∧
      match freshN c 0 (lenN post - lenN pre) with
      | new => noneB h new ∧ renBsK (appN σ new) (appN σ new) post fun ws => renK (appN σ new) 60 r fun r => altK r fun r => K r (appN σ new) ws)))
def callK (C : Cons) (h : Hp) (c : Nat) (f : FuncId) (vs : List V) (K : FK) : Prop :=
  match V.klL 40 vs with
  | true => (∃ r, C.p f vs r ∧ altK r fun r => K r [] []) ∨ callM C h c f vs K
  | false => (lendLK h 40 vs fun vs ks => ∃ r, C.p f vs r ∧ altK r fun r => flatRK h ks r (K r ks [])) ∨
      (frzK h vs fun vs fs => ∃ r, C.p f vs r ∧ altK r fun r => K r (keysOf fs) fs) ∨ callM C h c f vs K

/-- cells of a block: its own, or one that is only read -/
def cellsK (h : Hp) (a : Nat) (k : List V → Prop) : Prop := match h a with
  | some (.cells cs) => k cs
  | some (.rd u) => match u with | .elt cs 0 => k cs | _ => False
  | _ => False
/-- cells as rows of E cells -/
def chunkK : Nat → List V → (List (List V) → Prop) → Prop
  | 0, [], k => k []
  | 0, _ :: _, _ => False
  | n + 1, l, k => match l with | x :: r => chunkK n r fun s => k ([x] :: s) | [] => False
/-- an array's cells, from a place on, as rows -/
def rowsOfK (m off : Nat) (row : List V) (k : List (List V) → Prop) : Prop := dropK off row fun r => takeK m r fun s => chunkK m s k
/-- the upper bound of a[:hi] -/
def hiK (e : Env) (hi : Option Operand) (m : Nat) (k : Nat → Prop) : Prop := match hi with
  | none => k m
  | some y => match e.rd y with | .int _ b => (0 ≤ b ∧ b ≤ m) ∧ k b.toNat | _ => False
def isIK (ti : Option TI) (p : Prop) : Prop := match ti with | some (.word (.val .nilIface)) => p | _ => False
def isPK (ti : Option TI) (p : Prop) : Prop := match ti with | some (.word (.val (.pointer none))) => p | _ => False
def isC : Operand → Bool
  | .const _ => true
  | _ => false
def goK (op : BinOp) (b : Bool) (K : V → Prop) : Prop := match op with | .eql => K (.bool b) | .neq => K (.bool (!b)) | _ => False
def cmpK (T : Tab) (op : BinOp) (cst : Bool) (x y : V) (K : V → Prop) : Prop :=
  match x with
  | .val .nilIface => match y with
    | .val .nilIface => match cst with | true => goK op true K | false => False
    | .ifc _ _ => goK op false K
    | _ => False
  | .ifc t u => match y with
    | .val .nilIface => goK op false K
    | .ifc t' u' => match Nat.beq t t' with
      | false => goK op false K
      | true => match T.cmp t with
        | true => match u with
          | .int k a => match u' with
            | .int k' b => match sameK k k' with | true => goK op (decide (a = b)) K | false => False
            | _ => False
          | _ => False
        | false => False
    | _ => False
  | _ => False
/-- pointers to the call's own blocks, in interfaces -/
def liveK (h : Hp) (a : Nat) (p : Prop) : Prop := match h a with | some (.cells _) => p | _ => False
def ptrIK (T : Tab) (op : BinOp) (h : Hp) (t a o : Nat) (y : V) (K : FK) : Prop :=
  match y with
  | .ifc t' u => match Nat.beq t t' with
    | false => goK op false fun v => K v [] []
    | true => match u with
      | .ptr b p => match T.cmpP t with
        | true => match Nat.beq a b with
          | true => match Nat.beq o p with
            | true => goK op true fun v => K v [] []
            | false => False
          | false => liveK h a (liveK h b (goK op false fun v => K v [a, b] []))
        | false => False
      | _ => False
  | .val z => match z with | .nilIface => goK op false fun v => K v [] [] | _ => False
  | _ => False
/-- a list that is written down: read alone, or one's own -/
inductive LitSl : Prop
  | mk
inductive LitOwn : Prop
  | mk
def zeroK (T : Tab) (t : TypeId) (k : V → Prop) : Prop := match T t with | some ti => forceK ti.zero k | none => False
/-- one operation. C: the contracts. c: the number of a block that it may make -/
def opF (C : Cons) (T : Tab) (c : Nat) (o : Oper) (e : Env) (h : Hp) (K : FK) : Prop :=
  match o.op with
  | .move x => viewK h (e.rd x) fun v ks => K v ks []
  | .assign x => viewK h (e.rd x) fun v ks => K v ks []
  | .pick q a b => match e.rd q with
    | .bool t => Br t (forceK (e.rd a) fun v => K v [] []) (forceK (e.rd b) fun v => K v [] [])
    | _ => False
  | .alloc t => match T t with
    | some ti => match h c with | none => K (.ptr c 0) [c] [(c, .cells ti.zero.cells)] | some _ => False
    | none => False
  | .box t x => match T t with
    | some ti => match h c with | none => innerK (e.rd x) fun v => natK v.cells.length ti.cells (K (.ptr c 0) [c] [(c, .cells v.cells)]) | some _ => False
    | none => False
  | .load t x => match T t with
    | some ti => match e.rd x with
      | .ptr a off => cellsK h a fun cs => partK ti.isAgg ti.cells cs off fun v => viewK h v fun v ks => K v (a :: ks) []
      | .elt row off => partK ti.isAgg ti.cells row off fun v => forceK v fun v => K v [] []
      | .oelt a E i off => match h a with | some (.rows _ xs) => i < xs.length ∧ ∀ row, xs[i]? = some row → row.length = E ∧ partK ti.isAgg ti.cells row off fun v => forceK v fun v => K v [a] [] | _ => False
      | _ => False
    | none => False
  | .store t x y => match T t with
    | some ti => match e.rd x with
      | .ptr a off => match h a with
        | some (.cells cs) => innerK (e.rd y) fun v => natK v.cells.length ti.cells (writeK cs off v.cells fun cs' => K .und [a] [(a, .cells cs')])
        | _ => False
      | .oelt a E i off => match h a with
        | some (.rows t xs) => innerK (e.rd y) fun v => klK v (natK v.cells.length ti.cells (i < xs.length ∧ ∀ row, xs[i]? = some row → row.length = E ∧ writeK row off v.cells fun row' => K .und [a] [(a, .rows t (xs.set i row'))]))
        | _ => False
      | _ => False
    | none => False
  | .nilCheck x => match e.rd x with
    | .ptr a off => K (.ptr a off) [] []
    | .elt r off => K (.elt r off) [] []
    | .ifc t v => K (.ifc t v) [] []
    | _ => False
  | .binOp op t x y _ => match e.rd x with
    | .ifc t1 u => match u with
      | .ptr a o => isIK (T t) (ptrIK T op h t1 a o (e.rd y) K)
      | u => isIK (T t) <| cmpK T op (isC x || isC y) (.ifc t1 u) (e.rd y) fun v => K v [] []
    | .val z => match z with
      | .pointer none => isPK (T t) (match e.rd y with | .val (.pointer none) => goK op true fun v => K v [] [] | .ptr _ _ => goK op false fun v => K v [] [] | .elt _ _ => goK op false fun v => K v [] [] | _ => False)
      | z => isIK (T t) <| cmpK T op (isC x || isC y) (.val z) (e.rd y) fun v => K v [] []
    | .ptr _ _ => isPK (T t) (match e.rd y with | .val (.pointer none) => goK op false fun v => K v [] [] | _ => False)
    | .elt _ _ => isPK (T t) (match e.rd y with | .val (.pointer none) => goK op false fun v => K v [] [] | _ => False)
    | .alt b u v => isIK (T t) (match e.rd y with
      | .val z => (match z with | .nilIface => (match (isC x || isC y) with | true => nilK 5 (.alt b u v) fun r => goK op r fun v => K v [] [] | false => False) | _ => False)
      | _ => False)
    | x' => binK op (T t) (T.eq t) x' (e.rd y) fun v => K v [] []
  | .convert src dst x => match T src with
    | some (.word (.int _ _)) => match T dst with
      | some (.word (.int k _)) => match e.rd x with
        | .int _ n => wrapK k n fun v => K v [] []
        | _ => False
      | _ => False
    | some (.slice el _) => match T dst with
      | some (.word (.str _)) => match T el with
        | some (.word (.int .u8 _)) => match e.rd x with
          | .sl xs => ∃ l, ByteRows xs l ∧ K (.str l) [] []
          | .own a => match h a with | some (.rows _ xs) => ∃ l, ByteRows xs l ∧ K (.str l) [a] [] | _ => False
          | _ => False
        | _ => False
      | _ => False
    | some (.word (.str _)) => match T dst with
      | some (.slice el esz) => match T el with
        | some (.word (.int .u8 _)) => match e.rd x with
          | .str l => match h c with
            | none => l.length ≤ maxLen ∧ K (.own c) [c] [(c, .rows el (l.map encB))]
            | some _ => False
          | _ => False
        | _ => False
      | _ => False
    | _ => False
  | .unOp op _ x => match op, e.rd x with
    | .not, .bool b => K (.bool (!b)) [] []
    | .neg, .int k n => wrapK k (0 - n) fun v => K v [] []
    | _, _ => False
  | .fieldAddr t x f => match T t with
    | some (.struct fs _) => fieldK fs f fun off _ _ => match e.rd x with
      | .ptr a o => K (.ptr a (o + off)) [] []
      | .elt r o => K (.elt r (o + off)) [] []
      | .oelt a E i o => K (.oelt a E i (o + off)) [] []
      | _ => False
    | _ => False
  | .field t x f => match T t with
    | some (.struct fs _) => fieldK fs f fun off size agg => match e.rd x with
      | .agg cs => partK agg size cs off fun v => viewK h v fun v ks => K v ks []
      | _ => False
    | _ => False
  | .indexAddr t x i => match T t with
    | some (.slice _ esz) => match e.rd i with
      | .int _ n => match e.rd x with
        | .sl xs => (0 ≤ n ∧ n < xs.length) ∧ ∀ row, xs[n.toNat]? = some row → row.length = esz ∧ K (.elt row 0) [] []
        | .own a => match h a with | some (.rows _ xs) => (0 ≤ n ∧ n < xs.length) ∧ K (.oelt a esz n.toNat 0) [a] [] | _ => False
        | _ => False
      | _ => False
    | some (.array m _ _ _) => match e.rd i with
      | .int _ n => match e.rd x with
        | .ptr a off => (0 ≤ n ∧ n < m) ∧ K (.ptr a (off + n.toNat)) [] []
        | .elt row off => (0 ≤ n ∧ n < m) ∧ K (.elt row (off + n.toNat)) [] []
        | _ => False
      | _ => False
    | _ => False
  | .index t x i => match T t with
    | some (.word (.str _)) => match e.rd i with
      | .int _ n => match e.rd x with
        | .str l => (0 ≤ n ∧ n < l.length) ∧ K (.int .u8 (l.getD n.toNat 0).toNat) [] []
        | _ => False
      | _ => False
    | _ => False
  | .extract x i => match e.rd x with
    | .tup vs => nthK i vs fun v => viewK h v fun v ks => K v ks []
    | _ => False
  | .build t parts => match T t with
    | some (.struct fs zero) => buildK e fs parts.toList zero fun cs => K (.agg cs) [] []
    | some (.array n _ _ zero) => match Nat.ble n 64 with | true => buildK e (onesF 0 n) parts.toList zero fun cs => K (.agg cs) [] [] | false => False
    | _ => False
  | .buildSlice t n parts => match T t with
    | some (.slice el esz) => match Nat.beq n 0 with
      | true => match parts.toList with
        | [] => match h c with | none => K (.own c) [c] [(c, .rows el [])] | some _ => False
        | _ :: _ => False
      | false => rowsK e esz 0 parts.toList fun xs => natK xs.length n (match Nat.ble (n * esz) 4096 with | true => (LitSl ∧ K (.sl xs) [] []) ∨ (LitOwn ∧ match h c with | none => K (.own c) [c] [(c, .rows el xs)] | some _ => False) | false => False)
    | _ => False
  | .slice t x lo hi none => match T t with
    | some (.word (.str _)) => match e.rd x with
      | .str l => boundsK e lo hi l.length fun a b => K (.str ((l.take b).drop a)) [] []
      | _ => False
    | some (.slice _ esz) => match e.rd x with
      | .sl xs => (∀ r ∈ xs, r.length = esz) ∧ boundsK e lo hi xs.length fun a b => K (.sl ((xs.take b).drop a)) [] []
      | .nils => boundsK e lo hi 0 fun _ _ => K .nils [] []
      | _ => False
    | some (.array m _ _ _) => match lo with
      | none => match Nat.ble m 4096 with
        | true => hiK e hi m fun b => match e.rd x with
          | .elt row off => rowsOfK m off row fun xs => K (.sl (xs.take b)) [] []
          | .ptr a off => match h a with
            | some (.rd u) => match u with | .elt row 0 => rowsOfK m off row fun xs => K (.sl (xs.take b)) [a] [] | _ => False
            | _ => False
          | _ => False
        | false => False
      | _ => False
    | _ => False
  | .slice t x none (some y) (some z) => match T t with
    | some (.slice el _) => match e.rd y with
      | .int _ b => match e.rd z with
        | .int _ m => match e.rd x with
          | .sl _ => match h c with | none => (b = 0 ∧ m = 0) ∧ K (.own c) [c] [(c, .rows el [])] | some _ => False
          | .nils => (b = 0 ∧ m = 0) ∧ K .nils [] []
          | _ => False
        | _ => False
      | _ => False
    | _ => False
  | .makeInterface t x => match T t with
    | some (.word (.val .nilIface)) => False
    | some _ => forceK (e.rd x) fun v => K (.ifc t v) [] []
    | none => False
  | .makeSlice t x y => match T t with
    | some (.slice el E) => match T el with
      | some ti => match e.rd x with
        | .int _ n => match e.rd y with
          | .int _ m => match h c with
            | none => natK ti.cells E ((n = m ∧ 0 ≤ n ∧ n * 1024 ≤ 140737488355328) ∧ K (.own c) [c] [(c, .rows el (List.replicate n.toNat ti.zero.cells))])
            | some _ => False
          | _ => False
        | _ => False
      | none => False
    | _ => False
  | .makeFunc (.func f) first caps => match first.toList with
    | [] => forcesK e caps.toList fun vs => K (.fn f vs) [] []
    | _ :: _ => False
  | .typeAssert x _ asserted ok => match T asserted with
    | some (.word (.val .nilIface)) => match e.rd x with
      | .ifc t v => match T.imp asserted t with
        | some true => match ok with | true => K (.tup [.ifc t v, .bool true]) [] [] | false => K (.ifc t v) [] []
        | some false => match ok with | true => K (.tup [.val .nilIface, .bool false]) [] [] | false => False
        | none => False
      | .val .nilIface => match ok with | true => K (.tup [.val .nilIface, .bool false]) [] [] | false => False
      | _ => False
    | some ti => match e.rd x with
        | .ifc t v => match Nat.beq t asserted with
          | true => match ok with | true => K (.tup [v, .bool true]) [] [] | false => forceK v fun v => K v [] []
          | false => match ok with | true => forceK ti.zero fun z => K (.tup [z, .bool false]) [] [] | false => False
        | .val .nilIface => match ok with | true => forceK ti.zero fun z => K (.tup [z, .bool false]) [] [] | false => False
        | _ => False
    | none => False
  | .call q => match q.callee with
    | .value x => match e.rd x with
      | .fn f caps => forcesK e q.args.toList fun vs => appK vs caps fun vs => callK C h c f vs K
      | _ => False
    | .invoke x m => match e.rd x with
      | .ifc t v => match T.meth t m with
        | some (f, first) => match first with
          | false => forcesK e q.args.toList fun vs => forceK v fun v => callK C h c f (v :: vs) K
          | true => match v with
            | .agg cs => match cs with | [u] => forcesK e q.args.toList fun vs => forceK u fun u => callK C h c f (u :: vs) K | _ => False
            | _ => False
        | none => False
      | _ => False
    | .builtin b => match b, q.args.toList with
      | .len, [x] => match q.argTypes.toList with | [t] => lenK (T t) (e.rd x) h fun v ks => K v ks [] | _ => False
      | .min, [x, y] => match e.rd x, e.rd y with
        | .int k a, .int k' b => match sameK k k' with | true => K (.int k (min a b)) [] [] | false => False
        | .str a, .str b => K (.str (minS a b)) [] []
        | _, _ => False
      | .max, [x, y] => match e.rd x, e.rd y with
        | .int k a, .int k' b => match sameK k k' with | true => K (.int k (max a b)) [] [] | false => False
        | .str a, .str b => K (.str (maxS a b)) [] []
        | _, _ => False
      | .append, [x, y] => match q.argTypes.toList with
        | [t, t'] => match T t, Nat.beq t t' with
          | some (.slice el esz), true =>
            match h c with
            | some _ => False
            | none =>
              let go (xs ys : List (List V)) (rs : List Nat) (fs : List (Nat × Blk)) : Prop := (∀ r ∈ ys, r.length = esz) ∧ (xs.length + ys.length) * 1024 ≤ 140737488355328 ∧ K (.own c) (c :: rs) (appW fs [(c, .rows el (xs ++ ys))])
              match e.rd x, e.rd y with
              | .nils, .sl ys => go [] ys [] []
              | .nils, .nils => K .nils [] []
              | .own a, .sl ys => match h a with | some (.rows el' xs) => natK el el' (go xs ys [a] [(a, .dead)]) | _ => False
              | .nils, .own b => match h b with | some (.rows _ ys) => go [] ys [b] [] | _ => False
              | .own a, .own b => match Nat.beq a b with
                | true => False
                | false => match h a with
                  | some (.rows el' xs) => match h b with | some (.rows _ ys) => natK el el' (go xs ys [a, b] [(a, .dead)]) | _ => False
                  | _ => False
              | .own a, .nils => match h a with | some (.rows el' xs) => natK el el' (go xs [] [a] [(a, .dead)]) | _ => False
              | _, _ => False
          | _, _ => False
        | _ => False
      | _, _ => False
  | _ => False

/-- is an operation to be carried out? by what the one that guards it has yielded -/
def guardK (ops : List Oper) (e : Env) (g : Option (Nat × Bool)) (p q : Prop) : Prop :=
  match g with
  | none => p
  | some (j, want) => nthK j ops fun o => match o.dst with
    | some t => match e t with
      | .bool b => match want with | true => Br b p q | false => Br b q p
      | .und => q
      | _ => False
    | none => False
/-- a region's operations, in the text's order; operation number i may make block c + i. rc: what each has looked at and written, the last one first -/
def opsK (C : Cons) (T : Tab) (ops : List Oper) : Nat → List Oper → Env → Hp → List (List Nat × List Nat) → (Env → Hp → List (List Nat × List Nat) → Prop) → Prop
  | _, [], e, h, rc, K => K e h rc
  | c, o :: rest, e, h, rc, K => match o.dst with
    | some d => guardK ops e o.guard (opF C T c o e h fun v rs ws => opsK C T ops (c + 1) rest (e.set d v) (h.sets ws) ((rs, keysOf ws) :: rc) K) (opsK C T ops (c + 1) rest (e.set d .und) h (([], []) :: rc) K)
    | none => guardK ops e o.guard (opF C T c o e h fun _ rs ws => opsK C T ops (c + 1) rest e (h.sets ws) ((rs, keysOf ws) :: rc) K) (opsK C T ops (c + 1) rest e h (([], []) :: rc) K)
/-! ### a region that draws its order: whatever two operations touch alike, one of them waits for the other -/
/-- operation o waits for number j -/
def waits (o : Oper) (j : Nat) : Bool := o.after.toList.any fun e => Region.binds .any e && Nat.beq e.on j
def maskOf (acc : List Nat) (o : Oper) : Nat := o.after.toList.foldl (fun s e => match Region.binds .any e with | true => s ||| (2 ^ e.on ||| acc.getD e.on 0) | false => s) 0
def masks : List Oper → List Nat → List Nat
  | [], acc => acc
  | o :: r, acc => masks r (acc ++ [maskOf acc o])
def anyN (a b : List Nat) : Bool := a.any fun k => b.any (Nat.beq k)
/-- m: those for which the operation waits, step by step -/
def confRow (m : Nat) (rs ws : List Nat) : List (List Nat × List Nat) → Bool
  | [] => true
  | p :: r => (!(anyN ws p.1 || anyN rs p.2 || anyN ws p.2) || m.testBit r.length) && confRow m rs ws r
def confB (ms : List Nat) : List (List Nat × List Nat) → Bool
  | [] => true
  | p :: r => confRow (ms.getD r.length 0) p.1 p.2 r && confB ms r
def drawK (C : Cons) (T : Tab) (ops : List Oper) (c0 : Nat) (e : Env) (h : Hp) (K : Env → Hp → Prop) : Prop :=
  opsK C T ops c0 ops e h [] fun e h rc => confB (masks ops []) rc = true ∧ K e h
end Go.Proofs.YthchmjdgepbjpaaDoor
