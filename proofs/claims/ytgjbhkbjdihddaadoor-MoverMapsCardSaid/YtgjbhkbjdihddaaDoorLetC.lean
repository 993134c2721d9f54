/-
  Walks of package letter: whether a letter has its kind's parts. No conditions.
-/
import Derived.Test.YtgjbhkbjdihddaaDoorLetB
namespace Go.Proofs.YtgjbhkbjdihddaaDoor
open Go.RowKit
set_option linter.unusedSimpArgs false
set_option linter.unusedVariables false

structure LetV where
  kind : Int
  fr : Int
  to : Int
  n0 : Int
  n1 : Int
  n2 : Int
  n3 : Int
  n4 : Int
  op : OpV
  an : AnV
  f : Bs
  t : Bs
  seen : List Sn
  ev : List Evt
  pl : List Plc
  data : Bs
  deriving DecidableEq
abbrev encL (l : LetV) : List V := [.int .i64 l.kind, .int .i64 l.fr, .int .i64 l.to, .int .i64 l.n0, .int .i64 l.n1, .int .i64 l.n2, .int .i64 l.n3, .int .i64 l.n4,
  .int .i64 l.op.kind, .str l.op.key, .str l.op.to, .str l.op.val, .int .i64 l.op.ver, .sl (l.op.ws.map encWr), .int .i64 l.an.code, .str l.an.val, .int .i64 l.an.ver, .sl (l.an.rows.map encRw), .str l.f, .str l.t, .sl (l.seen.map encN), .sl (l.ev.map encE), .sl (l.pl.map encP), .str l.data]
def kindL (l : LetV) : Bool := decide (1 ≤ l.kind) && decide (l.kind ≤ 21) && (decide (l.kind = 1) == opB l.op) && (decide (l.kind = 1) || decide (l.op = zeroO)) && (if l.kind = 2 then anB l.an else decide (l.an = zeroA))
end Go.Proofs.YtgjbhkbjdihddaaDoor
