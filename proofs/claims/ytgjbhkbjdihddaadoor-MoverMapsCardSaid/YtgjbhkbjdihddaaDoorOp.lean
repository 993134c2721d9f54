/-
  Walks of package op: whether it is one, its key, whether two are alike. No conditions.
-/
import Derived.Test.YtgjbhkbjdihddaaDoorTk
import Derived.Test.YtgjbhkbjdihddaaDoorSp
namespace Go.Proofs.YtgjbhkbjdihddaaDoor
open Go.RowKit
set_option linter.unusedSimpArgs false
set_option linter.unusedVariables false

structure Wr where
  k : Bs
  v : Bs
  d : Bool
  deriving DecidableEq
structure Rw where
  k : Bs
  v : Bs
  n : Int
  deriving DecidableEq
abbrev encWr (w : Wr) : List V := [.str w.k, .str w.v, .bool w.d]
abbrev encRw (r : Rw) : List V := [.str r.k, .str r.v, .int .i64 r.n]
structure OpV where
  kind : Int
  key : Bs
  to : Bs
  val : Bs
  ver : Int
  ws : List Wr
  deriving DecidableEq
structure AnV where
  code : Int
  val : Bs
  ver : Int
  rows : List Rw
  deriving DecidableEq
abbrev encO (o : OpV) : List V := [.int .i64 o.kind, .str o.key, .str o.to, .str o.val, .int .i64 o.ver, .sl (o.ws.map encWr)]
abbrev encA (a : AnV) : List V := [.int .i64 a.code, .str a.val, .int .i64 a.ver, .sl (a.rows.map encRw)]
def belowW : Option Bs → Bs → Bool
  | none, _ => true
  | some q, k => blt q k
def wrB (w : Wr) : Bool := isKeyB w.k && decide (w.v.length ≤ 40) && !(w.d && !decide (w.v = []))
def wrsB : Option Bs → List Wr → Bool
  | _, [] => true
  | p, w :: r => wrB w && belowW p w.k && wrsB (some w.k) r
def isWritesB (l : List Wr) : Bool := wrsB none l && decide (1 ≤ l.length) && decide (l.length ≤ 4)
def partsB (o : OpV) : Bool := (decide (o.kind = 5) || decide (o.to = [])) && (decide (o.kind = 2) || decide (o.kind = 4) || decide (o.val = [])) && (decide (o.kind = 4) || decide (o.kind = 7) || decide (o.ver = 0)) && (decide (o.kind = 6) || decide (o.ws = []))
def mostV (kind : Int) : Int := if kind = 7 then 24 else 1000000000000
def opB (o : OpV) : Bool := decide (1 ≤ o.kind) && decide (o.kind ≤ 7) && partsB o && (if o.kind = 6 then decide (o.key = []) && isWritesB o.ws else if o.kind = 5 then isKeyB o.key && isB ⟨o.key, o.to⟩ else isKeyB o.key && decide (o.val.length ≤ 40) && decide (0 ≤ o.ver) && decide (o.ver ≤ mostV o.kind))
def writesB (o : OpV) : Bool := !decide (o.kind = 1) && !decide (o.kind = 5)
def keyO (o : OpV) : Bs := if o.kind = 6 then ((o.ws.head?).map (·.k)).getD [] else o.key
theorem eq_take {α : Type} {l m : List α} {k : Nat} {p q : α} (h1 : l[k]? = some p) (h2 : m[k]? = some q) (h : l.take k = m.take k) : l.take (k + 1) = m.take (k + 1) ↔ p = q := by
  rw [List.take_add_one, List.take_add_one, h1, h2, h]
  simp
theorem neq_of {α : Type} {l m : List α} {k : Nat} {p q : α} (h1 : l[k]? = some p) (h2 : m[k]? = some q) (h : ¬ p = q) : ¬ l = m := fun e => h (by subst e; rw [h1] at h2; exact Option.some.inj h2)
def prevW (c : List Wr) (i : Nat) : Option Bs := if i = 0 then none else (c[i - 1]?).map (·.k)
theorem encWr_ext {p q : Wr} (h : p.k = q.k ∧ p.v = q.v ∧ p.d = q.d) : p = q := by
  cases p; cases q; simp at h; simp [h]

theorem encRw_ext {p q : Rw} (h : p.k = q.k ∧ p.v = q.v ∧ p.n = q.n) : p = q := by
  cases p; cases q; simp at h; simp [h]

theorem op_ext {p q : OpV} : p = q ↔ p.kind = q.kind ∧ p.key = q.key ∧ p.to = q.to ∧ p.val = q.val ∧ p.ver = q.ver ∧ p.ws = q.ws := by
  cases p; cases q; simp
theorem an_ext {p q : AnV} : p = q ↔ p.code = q.code ∧ p.val = q.val ∧ p.ver = q.ver ∧ p.rows = q.rows := by
  cases p; cases q; simp
end Go.Proofs.YtgjbhkbjdihddaaDoor
