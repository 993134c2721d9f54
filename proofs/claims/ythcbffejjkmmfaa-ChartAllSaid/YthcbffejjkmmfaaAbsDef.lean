/-
  Words for walks by abstract values: what a value of the machine stands for (numbers, texts, structs, lists that are read, the call's own blocks), and a walk of a function's text over these words alone. No conditions.
-/
import Derived.Test.YthcbffejjkmmfaaRows
import Derived.WalkKit
import Derived.Still
namespace Go.Proofs.Ythcbffejjkmmfaa
open Go.RowKit
set_option linter.unusedSimpArgs false
set_option linter.unusedVariables false

abbrev Bs := List UInt8
/-- a text as a value -/
abbrev S (l : Bs) : Value := .string ⟨l.toArray⟩

/-- what a value stands for -/
inductive V where
  | any
  | und
  | bool (b : Bool)
  | int (k : IntKind) (n : Int)
  | str (l : Bs)
  | val (v : Value)
  | agg (cs : List V)
  | tup (cs : List V)
  | ptr (k off : Nat)
  | nils
  | sl (xs : List (List V))
  | elt (row : List V) (off : Nat)
  | own (k : Nat)
  | oelt (k E i off : Nat)
  | ifc (t : TypeId) (v : V)
  | fn (f : FuncId) (caps : List V)
  deriving Inhabited
/-- what one of the call's own blocks holds: cells, or rows of a slice that it may append to -/
inductive Blk where
  | cells (cs : List V)
  | rows (t : TypeId) (xs : List (List V))
  | dead
  deriving Inhabited
abbrev Env := Nat → V
abbrev Hp := Nat → Option Blk
def Env.set (e : Env) (t : Nat) (v : V) : Env := fun s => match Nat.beq s t with | true => v | false => e s
def Env.put (e : Env) (dst : Option Tmp) (v : V) : Env := match dst with | some t => e.set t v | none => e
def Hp.set (h : Hp) (k : Nat) (b : Option Blk) : Hp := fun s => match Nat.beq s k with | true => b | false => h s

/-- what is known of a type: its cells, its fields (place, size), its elements -/
inductive TI where
  | word (zero : V)
  | struct (fs : List (Nat × Nat × Bool)) (zero : List V)
  | slice (elem : TypeId) (esz : Nat)
  | array (n : Nat) (elem : TypeId) (esz : Nat) (zero : List V)
  deriving Inhabited
/-- kinds of cells that can be held against each other -/
inductive EK where
  | b | n | s
  deriving DecidableEq
structure Tab where
  ti : TypeId → Option TI
  eq : TypeId → Option (List EK)
instance : CoeFun Tab (fun _ => TypeId → Option TI) := ⟨Tab.ti⟩
def TI.cells : TI → Nat
  | .word _ => 1 | .slice _ _ => 1 | .struct _ z => z.length | .array _ _ _ z => z.length
def TI.zero : TI → V
  | .word z => z | .slice _ _ => .nils | .struct _ z => .agg z | .array _ _ _ z => .agg z
def V.cells : V → List V
  | .agg cs => cs | v => [v]
/-- a constant -/
def V.ofAtom : Value → V
  | .bool b => .bool b
  | .int k n => .int k n
  | .string s => .str s.data.toList
  | .slice none 0 0 => .nils
  | .pointer none => .val (.pointer none)
  | .nilIface => .val .nilIface
  | .nilFunc => .val .nilFunc
  | .map none => .val (.map none)
  | _ => .any
def V.ofConst : Value → V
  | .agg cs => match cs.toList.all (·.oneCell') with | true => .agg (cs.toList.map V.ofAtom) | false => .any
  | v => V.ofAtom v
def Env.rd (e : Env) : Operand → V
  | .tmp t => e t
  | .const v => V.ofConst v
  | .global _ => .any
  | .func f => .fn f []


/-- a test: which way -/
inductive Br : Bool → Prop → Prop → Prop
  | t {p q : Prop} (h : p) : Br true p q
  | f {p q : Prop} (h : q) : Br false p q
theorem Br.mk {b : Bool} {p q : Prop} (hp : b = true → p) (hq : b = false → q) : Br b p q := by
  cases b
  · exact .f (hq rfl)
  · exact .t (hp rfl)

/-- the first n of a list, one by one, made plain -/
def takeK : Nat → List V → (List V → Prop) → Prop
  | 0, _, k => k []
  | n + 1, l, k => match l with | x :: r => takeK n r fun s => k (x :: s) | [] => False
def dropK : Nat → List V → (List V → Prop) → Prop
  | 0, l, k => k l
  | n + 1, l, k => match l with | _ :: r => dropK n r k | [] => False
def nthK {α : Type} : Nat → List α → (α → Prop) → Prop
  | 0, l, k => match l with | x :: _ => k x | [] => False
  | n + 1, l, k => match l with | _ :: r => nthK n r k | [] => False
/-- part of a struct's cells, as a value: one bare cell, or 'size' cells -/
def partK (agg : Bool) (size : Nat) (cs : List V) (off : Nat) (k : V → Prop) : Prop :=
  match agg with
  | false => nthK off cs k
  | true => dropK off cs fun r => takeK size r fun s => k (.agg s)
def TI.isAgg : TI → Bool
  | .word _ | .slice _ _ => false
  | .struct _ _ | .array _ _ _ _ => true
def writeK (cs : List V) : Nat → List V → (List V → Prop) → Prop
  | 0, [], k => k cs
  | 0, v :: vs, k => match cs with | _ :: r => writeK r 0 vs fun s => k (v :: s) | [] => False
  | n + 1, vs, k => match cs with | c :: r => writeK r n vs fun s => k (c :: s) | [] => False
/-- a value that may lie inside another one: no slice of the call's own -/
def V.inner : V → Bool
  | .own _ | .oelt _ _ _ _ | .any | .und | .tup _ => false
  | _ => true
mutual
/-- does it name none of the call's own blocks? (looked for n levels deep) -/
def V.kl : Nat → V → Bool
  | 0, _ => false
  | n + 1, v => match v with
    | .own _ => false
    | .oelt _ _ _ _ => false
    | .ptr _ _ => false
    | .agg cs => V.klL n cs
    | .tup cs => V.klL n cs
    | .fn _ cs => V.klL n cs
    | .ifc _ v => V.kl n v
    | _ => true
def V.klL : Nat → List V → Bool
  | 0, _ => false
  | _ + 1, [] => true
  | n + 1, v :: vs => match V.kl n v with | true => V.klL n vs | false => false
end
def klK (v : V) (p : Prop) : Prop := match V.kl 40 v with | true => p | false => False
def kllK (v : List V) (p : Prop) : Prop := match V.klL 40 v with | true => p | false => False
/-- the value made plain; None of its own slices -/
def innerK (v : V) (k : V → Prop) : Prop :=
  match v with
  | .own _ => False
  | .oelt _ _ _ _ => False
  | .any => False
  | .und => False
  | .bool b => k (.bool b)
  | .int i n => k (.int i n)
  | .str l => k (.str l)
  | .val x => k (.val x)
  | .agg cs => k (.agg cs)
  | .tup _ => False
  | .ptr a o => k (.ptr a o)
  | .nils => k .nils
  | .sl xs => k (.sl xs)
  | .elt r o => k (.elt r o)
  | .ifc t x => k (.ifc t x)
  | .fn f c => k (.fn f c)
def forceK (v : V) (k : V → Prop) : Prop :=
  match v with
  | .own a => k (.own a)
  | .oelt a E i o => k (.oelt a E i o)
  | .any => k .any
  | .und => k .und
  | .bool b => k (.bool b)
  | .int i n => k (.int i n)
  | .str l => k (.str l)
  | .val x => k (.val x)
  | .agg cs => k (.agg cs)
  | .tup cs => k (.tup cs)
  | .ptr a o => k (.ptr a o)
  | .nils => k .nils
  | .sl xs => k (.sl xs)
  | .elt r o => k (.elt r o)
  | .ifc t x => k (.ifc t x)
  | .fn f c => k (.fn f c)
def forcesK (e : Env) : List Operand → (List V → Prop) → Prop
  | [], k => k []
  | x :: r, k => forceK (e.rd x) fun v => forcesK e r fun vs => k (v :: vs)

/-- two numbers that are one: seen by computing -/
def natK (a b : Nat) (p : Prop) : Prop := match Nat.beq a b with | true => p | false => False
def in64 (n : Int) : Prop := -9223372036854775808 ≤ n ∧ n ≤ 9223372036854775807
def sameK : IntKind → IntKind → Bool
  | .i8, .i8 | .i16, .i16 | .i32, .i32 | .i64, .i64 | .u8, .u8 | .u16, .u16 | .u32, .u32 | .u64, .u64 => true
  | _, _ => false
def is64 : IntKind → Bool
  | .i64 => true | _ => false
def blt (a b : Bs) : Bool := Op.bytesLess a b
/-- numbers: an int64 may not overflow, the others wrap round -/
def wrapK (k : IntKind) (n : Int) (K : V → Prop) : Prop :=
  match is64 k with
  | true => in64 n ∧ K (.int .i64 n)
  | false => K (.int k (k.wrap n))
def intK (op : BinOp) (k : IntKind) (a b : Int) (K : V → Prop) : Prop :=
  match op with
  | .add => wrapK k (a + b) K
  | .sub => wrapK k (a - b) K
  | .mul => wrapK k (a * b) K
  | .quo => match is64 k with | true => (0 ≤ a ∧ 0 < b ∧ a ≤ 9223372036854775807) ∧ K (.int .i64 (a / b)) | false => False
  | .rem => match is64 k with | true => (0 ≤ a ∧ 0 < b ∧ a ≤ 9223372036854775807) ∧ K (.int .i64 (a % b)) | false => False
  | .eql => K (.bool (decide (a = b)))
  | .neq => K (.bool (!decide (a = b)))
  | .lss => K (.bool (decide (a < b)))
  | .leq => K (.bool (decide (a ≤ b)))
  | .gtr => K (.bool (decide (b < a)))
  | .geq => K (.bool (decide (b ≤ a)))
  | _ => False
def strK (op : BinOp) (a b : Bs) (K : V → Prop) : Prop :=
  match op with
  | .add => a.length + b.length ≤ maxLen ∧ K (.str (a ++ b))
  | .eql => K (.bool (decide (a = b)))
  | .neq => K (.bool (!decide (a = b)))
  | .lss => K (.bool (blt a b))
  | .leq => K (.bool (!blt b a))
  | .gtr => K (.bool (blt b a))
  | .geq => K (.bool (!blt a b))
  | _ => False
/-- cells, one by one -/
def eqK : List EK → List V → List V → (Bool → Prop) → Prop
  | [], [], [], K => K true
  | .b :: ks, .bool a :: xs, .bool b :: ys, K => eqK ks xs ys fun r => K ((a == b) && r)
  | .n :: ks, .int k a :: xs, .int k' b :: ys, K => match sameK k k' with | true => eqK ks xs ys fun r => K (decide (a = b) && r) | false => False
  | .s :: ks, .str a :: xs, .str b :: ys, K => eqK ks xs ys fun r => K (decide (a = b) && r)
  | _, _, _, _ => False
def binK (op : BinOp) (ti : Option TI) (eq : Option (List EK)) (x y : V) (K : V → Prop) : Prop :=
  match x, y with
  | .agg xs, .agg ys => match eq with
    | some ks => match op with
      | .eql => eqK ks xs ys fun r => K (.bool r)
      | .neq => eqK ks xs ys fun r => K (.bool (!r))
      | _ => False
    | none => False
  | .bool a, .bool b => match ti with
    | some (.word (.bool _)) => match op with | .eql => K (.bool (a == b)) | .neq => K (.bool (!(a == b))) | _ => False
    | _ => False
  | .int k a, .int k' b => match sameK k k' with | true => intK op k a b K | false => False
  | .str a, .str b => strK op a b K
  | _, _ => False
def minS (a b : Bs) : Bs := if blt b a then b else a
def maxS (a b : Bs) : Bs := if blt a b then b else a
def lenK (ti : Option TI) (v : V) (h : Hp) (K : V → Prop) : Prop :=
  match ti with
  | some (.word (.str _)) => match v with
    | .str l => K (.int .i64 l.length)
    | _ => False
  | some (.slice _ _) => match v with
    | .sl xs => K (.int .i64 xs.length)
    | .nils => K (.int .i64 0)
    | .own c => match h c with | some (.rows _ xs) => K (.int .i64 xs.length) | _ => False
    | _ => False
  | _ => False
/-- places of a list: fields or rows -/
def fieldK (fs : List (Nat × Nat × Bool)) (f : Nat) (k : Nat → Nat → Bool → Prop) : Prop := nthK f fs fun p => match p with | (o, s, a) => k o s a
def buildK (e : Env) (fs : List (Nat × Nat × Bool)) : List (Nat × Operand) → List V → (List V → Prop) → Prop
  | [], cs, k => k cs
  | (i, x) :: r, cs, k => fieldK fs i fun off size _ => innerK (e.rd x) fun v => natK v.cells.length size (writeK cs off v.cells fun cs' => buildK e fs r cs' k)
def rowsK (e : Env) (esz : Nat) : Nat → List (Nat × Operand) → (List (List V) → Prop) → Prop
  | _, [], k => k []
  | n, (i, x) :: r, k => match Nat.beq i n with
    | true => innerK (e.rd x) fun v => klK v (natK v.cells.length esz (rowsK e esz (n + 1) r fun s => k (v.cells :: s)))
    | false => False
/-- the bounds of s[lo:hi], where no capacity is made use of -/
def boundsK (e : Env) (lo hi : Option Operand) (n : Nat) (k : Nat → Nat → Prop) : Prop :=
  match lo, hi with
  | none, none => k 0 n
  | some x, none => match e.rd x with | .int _ a => (0 ≤ a ∧ a ≤ n) ∧ k a.toNat n | _ => False
  | none, some y => match e.rd y with | .int _ b => (0 ≤ b ∧ b ≤ n) ∧ k 0 b.toNat | _ => False
  | some x, some y => match e.rd x with
    | .int _ a => match e.rd y with | .int _ b => (0 ≤ a ∧ a ≤ b ∧ b ≤ n) ∧ k a.toNat b.toNat | _ => False
    | _ => False

/-- one operation: what it yields, what it leaves of the call's own blocks. C: the contracts. c: the number of a block that it may make -/
def opK (C : FuncId → List V → V → Prop) (T : Tab) (c : Nat) (o : Oper) (e : Env) (h : Hp) (K : V → Hp → Prop) : Prop :=
  match o.op with
  | .move x | .assign x => forceK (e.rd x) fun v => K v h
  | .pick q a b => match e.rd q with
    | .bool t => Br t (forceK (e.rd a) fun v => K v h) (forceK (e.rd b) fun v => K v h)
    | _ => False
  | .alloc t => match T t with
    | some ti => match h c with | none => K (.ptr c 0) (h.set c (some (.cells ti.zero.cells))) | some _ => False
    | none => False
  | .box t x => match T t with
    | some ti => match h c with | none => innerK (e.rd x) fun v => natK v.cells.length ti.cells (K (.ptr c 0) (h.set c (some (.cells v.cells)))) | some _ => False
    | none => False
  | .load t x => match T t with
    | some ti => match e.rd x with
      | .ptr a off => match h a with | some (.cells cs) => partK ti.isAgg ti.cells cs off fun v => K v h | _ => False
      | .elt row off => partK ti.isAgg ti.cells row off fun v => K v h
      | .oelt a E i off => match h a with | some (.rows _ xs) => i < xs.length ∧ ∀ row, xs[i]? = some row → row.length = E ∧ partK ti.isAgg ti.cells row off fun v => K v h | _ => False
      | _ => False
    | none => False
  | .store t x y => match T t with
    | some ti => match e.rd x with
      | .ptr a off => match h a with
        | some (.cells cs) => innerK (e.rd y) fun v => natK v.cells.length ti.cells (writeK cs off v.cells fun cs' => K .und (h.set a (some (.cells cs'))))
        | _ => False
      | .oelt a E i off => match h a with
        | some (.rows t xs) => innerK (e.rd y) fun v => klK v (natK v.cells.length ti.cells (i < xs.length ∧ ∀ row, xs[i]? = some row → row.length = E ∧ writeK row off v.cells fun row' => K .und (h.set a (some (.rows t (xs.set i row'))))))
        | _ => False
      | _ => False
    | none => False
  | .nilCheck x => match e.rd x with
    | .ptr a off => K (.ptr a off) h
    | .elt r off => K (.elt r off) h
    | .ifc t v => K (.ifc t v) h
    | _ => False
  | .binOp op t x y _ => binK op (T t) (T.eq t) (e.rd x) (e.rd y) fun v => K v h
  | .unOp op _ x => match op, e.rd x with
    | .not, .bool b => K (.bool (!b)) h
    | .neg, .int k n => wrapK k (0 - n) fun v => K v h
    | _, _ => False
  | .fieldAddr t x f => match T t with
    | some (.struct fs _) => fieldK fs f fun off _ _ => match e.rd x with
      | .ptr a o => K (.ptr a (o + off)) h
      | .elt r o => K (.elt r (o + off)) h
      | .oelt a E i o => K (.oelt a E i (o + off)) h
      | _ => False
    | _ => False
  | .field t x f => match T t with
    | some (.struct fs _) => fieldK fs f fun off size agg => match e.rd x with
      | .agg cs => partK agg size cs off fun v => K v h
      | _ => False
    | _ => False
  | .indexAddr t x i => match T t with
    | some (.slice _ esz) => match e.rd i with
      | .int _ n => match e.rd x with
        | .sl xs => (0 ≤ n ∧ n < xs.length) ∧ ∀ row, xs[n.toNat]? = some row → row.length = esz ∧ K (.elt row 0) h
        | .own a => match h a with | some (.rows _ xs) => (0 ≤ n ∧ n < xs.length) ∧ K (.oelt a esz n.toNat 0) h | _ => False
        | _ => False
      | _ => False
    | _ => False
  | .index t x i => match T t with
    | some (.word (.str _)) => match e.rd i with
      | .int _ n => match e.rd x with
        | .str l => (0 ≤ n ∧ n < l.length) ∧ K (.int .u8 (l.getD n.toNat 0).toNat) h
        | _ => False
      | _ => False
    | _ => False
  | .extract x i => match e.rd x with
    | .tup vs => nthK i vs fun v => forceK v fun v => K v h
    | _ => False
  | .build t parts => match T t with
    | some (.struct fs zero) => buildK e fs parts.toList zero fun cs => K (.agg cs) h
    | _ => False
  | .buildSlice t n parts => match T t with
    | some (.slice _ esz) => rowsK e esz 0 parts.toList fun xs => natK xs.length n (match Nat.ble (n * esz) 4096 with | true => K (.sl xs) h | false => False)
    | _ => False
  | .slice t x lo hi none => match T t with
    | some (.word (.str _)) => match e.rd x with
      | .str l => boundsK e lo hi l.length fun a b => K (.str ((l.take b).drop a)) h
      | _ => False
    | some (.slice _ esz) => match e.rd x with
      | .sl xs => (∀ r ∈ xs, r.length = esz) ∧ boundsK e lo hi xs.length fun a b => K (.sl ((xs.take b).drop a)) h
      | .nils => boundsK e lo hi 0 fun _ _ => K .nils h
      | _ => False
    | _ => False
  | .makeInterface t x => match T t with
    | some (.word (.val .nilIface)) => False
    | some _ => forceK (e.rd x) fun v => K (.ifc t v) h
    | none => False
  | .makeFunc (.func f) first caps => match first.toList with
    | [] => forcesK e caps.toList fun vs => K (.fn f vs) h
    | _ :: _ => False
  | .call q => match q.callee with
    | .value x => match e.rd x with
      | .fn f [] => forcesK e q.args.toList fun vs => kllK vs (∃ r, C f vs r ∧ K r h)
      | .fn f (c :: caps) => forcesK e q.args.toList fun vs => kllK (vs ++ (c :: caps)) (∃ r, C f (vs ++ (c :: caps)) r ∧ K r h)
      | _ => False
    | .invoke _ _ => False
    | .builtin b => match b, q.args.toList with
      | .len, [x] => match q.argTypes.toList with | [t] => lenK (T t) (e.rd x) h fun v => K v h | _ => False
      | .min, [x, y] => match e.rd x, e.rd y with
        | .int k a, .int k' b => match sameK k k' with | true => K (.int k (min a b)) h | false => False
        | .str a, .str b => K (.str (minS a b)) h
        | _, _ => False
      | .max, [x, y] => match e.rd x, e.rd y with
        | .int k a, .int k' b => match sameK k k' with | true => K (.int k (max a b)) h | false => False
        | .str a, .str b => K (.str (maxS a b)) h
        | _, _ => False
      | .append, [x, y] => match q.argTypes.toList with
        | [t, t'] => match T t, Nat.beq t t' with
          | some (.slice el esz), true =>
            let go (xs ys : List (List V)) (h' : Hp) : Prop := (∀ r ∈ ys, r.length = esz) ∧ (xs.length + ys.length) * 1024 ≤ 140737488355328 ∧ K (.own c) (h'.set c (some (.rows el (xs ++ ys))))
            match h c with
            | some _ => False
            | none => match e.rd x, e.rd y with
              | .nils, .sl ys => go [] ys h
              | .own a, .sl ys => match h a with | some (.rows el' xs) => natK el el' (go xs ys (h.set a (some .dead))) | _ => False
              | _, _ => False
          | _, _ => False
        | _ => False
      | _, _ => False
  | _ => False

/-- is an operation to be carried out? by what the one that guards it has yielded -/
def guardK (ops : List Oper) (e : Env) (g : Option (Nat × Bool)) (p q : Prop) : Prop :=
  match g with
  | none => p
  | some (j, want) => nthK j ops fun o => match o.dst with
    | some t => match e t with
      | .bool b => match want with | true => Br b p q | false => Br b q p
      | .und => q
      | _ => False
    | none => False
/-- a region's operations, in the text's order; operation number i may make block c + i -/
def opsK (C : FuncId → List V → V → Prop) (T : Tab) (ops : List Oper) : Nat → List Oper → Env → Hp → (Env → Hp → Prop) → Prop
  | _, [], e, h, K => K e h
  | c, o :: rest, e, h, K => match o.dst with
    | some d => guardK ops e o.guard (opK C T c o e h fun v h' => opsK C T ops (c + 1) rest (e.set d v) h' K) (opsK C T ops (c + 1) rest (e.set d .und) h K)
    | none => guardK ops e o.guard (opK C T c o e h fun _ h' => opsK C T ops (c + 1) rest e h' K) (opsK C T ops (c + 1) rest e h K)

/-! ### a region that draws its order: calm operations; stores that may come early; a tail in forced order -/
/-- operation o waits for number j -/
def waits (o : Oper) (j : Nat) : Bool := o.after.toList.any fun e => Region.binds .any e && Nat.beq e.on j
/-- a store that may come early: its address in a slot -/
def isMid (o : Oper) : Bool := match o.op with
  | .store _ (.tmp _) _ => match o.dst with
    | none => match o.guard with | none => true | some _ => false
    | some _ => false
  | _ => false
def midSlot (o : Oper) : Tmp := match o.op with | .store _ (.tmp t) _ => t | _ => 0
/-- how an operation touches the call's own blocks: 0, 1: it looks at them or makes one; 2: it writes -/
def cls : Op → Nat
  | .box _ _ | .store _ _ _ => 2
  | .call q => match q.callee with
    | .builtin .append => match q.args.toList with
      | .const (.slice none 0 0) :: _ => 1
      | _ => 2
    | _ => 1
  | _ => 1
/-- the operation waits for each of the first i -/
def waitsAll (o : Oper) : Nat → Bool
  | 0 => true
  | i + 1 => match waits o i with | true => waitsAll o i | false => false
/-- is the slot written in the region? -/
def homeB (ops : List Oper) (t : Tmp) : Bool := ops.any fun q => match q.dst with | some d => Nat.beq d t | none => false
/-- it makes a block into which an early store goes -/
def hidB (ops : List Oper) (o : Oper) : Bool := match o.op with
  | .alloc _ => match o.guard with
    | none => match o.dst with
      | some d => ops.any fun q => match isMid q with | true => Nat.beq (midSlot q) d | false => false
      | none => false
    | some _ => false
  | _ => false
/-- where the tail begins -/
def isTail (i : Nat) (o : Oper) : Bool := match o.op with
  | .assign _ => true
  | op => match Nat.blt 1 (cls op) with
    | true => match isMid o with | true => waitsAll o i | false => true
    | false => false
def allTail : Nat → List Oper → Bool
  | _, [] => true
  | i, o :: _ => isTail i o
def tailN : Nat → List Oper → Nat
  | i, [] => i
  | i, o :: r => match allTail i (o :: r) with | true => i | false => tailN (i + 1) r
def hideK (ops : List Oper) (e : Env) (c0 : Nat) : Nat → List Oper → Hp → (Hp → List Nat → Prop) → Prop
  | _, [], h, K => K h []
  | i, o :: r, h, K => match allTail i (o :: r) with
    | true => K h []
    | false => match isMid o with
      | true => match homeB ops (midSlot o) with
        | true => hideK ops e c0 (i + 1) r h K
        | false => match e (midSlot o) with
          | .ptr k _ => match Nat.ble c0 k with
            | true => match Nat.blt k (c0 + ops.length) with
              | true => False
              | false => hideK ops e c0 (i + 1) r (h.set k none) fun h' Z => K h' (k :: Z)
            | false => hideK ops e c0 (i + 1) r (h.set k none) fun h' Z => K h' (k :: Z)
          | _ => False
      | false => hideK ops e c0 (i + 1) r h K
def unhide (Z : List Nat) (h hf hc : Hp) : Hp := fun s => match Z.any (Nat.beq s) with | true => h s | false => match hf s with | some b => some b | none => hc s
/-- hf: the blocks into which an early store goes -/
def calmK (C : FuncId → List V → V → Prop) (T : Tab) (ops : List Oper) (c0 : Nat) : Nat → List Oper → Env → Hp → Hp → (Env → Hp → Hp → Prop) → Prop
  | _, [], e, h, hf, K => K e h hf
  | i, o :: r, e, h, hf, K => match allTail i (o :: r) with
    | true => K e h hf
    | false => match isMid o with
      | true => calmK C T ops c0 (i + 1) r e h hf K
      | false => match hidB ops o with
        | true => match o.dst with
          | some d => opK C T (c0 + i) o e h fun v h' => calmK C T ops c0 (i + 1) r (e.set d v) h (hf.set (c0 + i) (h' (c0 + i))) K
          | none => False
        | false => match o.dst with
          | some d => guardK ops e o.guard (opK C T (c0 + i) o e h fun v h' => calmK C T ops c0 (i + 1) r (e.set d v) h' hf K) (calmK C T ops c0 (i + 1) r (e.set d .und) h hf K)
          | none => guardK ops e o.guard (opK C T (c0 + i) o e h fun _ h' => calmK C T ops c0 (i + 1) r e h' hf K) (calmK C T ops c0 (i + 1) r e h hf K)
def midK (C : FuncId → List V → V → Prop) (T : Tab) (c0 : Nat) : Nat → List Oper → Env → Hp → (Hp → Prop) → Prop
  | _, [], _, h, K => K h
  | i, o :: r, e, h, K => match allTail i (o :: r) with
    | true => K h
    | false => match isMid o with
      | true => opK C T (c0 + i) o e h fun _ h' => midK C T c0 (i + 1) r e h' K
      | false => midK C T c0 (i + 1) r e h K
def tailK (C : FuncId → List V → V → Prop) (T : Tab) (ops : List Oper) (c0 : Nat) : Nat → List Oper → Env → Hp → (Env → Hp → Prop) → Prop
  | _, [], e, h, K => K e h
  | i, o :: r, e, h, K => match allTail i (o :: r) with
    | true => opsK C T ops (c0 + i) (o :: r) e h K
    | false => tailK C T ops c0 (i + 1) r e h K
def drawK (C : FuncId → List V → V → Prop) (T : Tab) (ops : List Oper) (c0 : Nat) (e : Env) (h : Hp) (K : Env → Hp → Prop) : Prop :=
  hideK ops e c0 0 ops h fun h1 Z => calmK C T ops c0 0 ops e h1 (fun _ => none) fun e' hc hf => midK C T c0 0 ops e' (unhide Z h hf hc) fun h'' => tailK C T ops c0 0 ops e' h'' K
end Go.Proofs.Ythcbffejjkmmfaa
