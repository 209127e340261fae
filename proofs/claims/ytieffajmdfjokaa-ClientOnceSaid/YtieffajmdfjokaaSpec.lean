/- The client's data as plain Lean: what Check, New, Call, Retry and Hear compute. -/
import Derived.Test.YtieffajmdfjokaaSmall
set_option linter.unusedSimpArgs false
set_option linter.unusedVariables false
namespace Go.Proofs.Ytieffajmdfjokaa
open Go.RowKit

structure OpD where
  kind : Int
  h : Int
  i : Int
  n : Int
  k : Int
  v : Int
  t : Int
deriving DecidableEq

def OpD.none : OpD := ⟨0, 0, 0, 0, 0, 0, 0⟩

structure Cli where
  id : Int
  nodes : Int
  seq : Int
  view : Int
  target : Int
  busy : Bool
  op : OpD
deriving DecidableEq

def Cli.none : Cli := ⟨0, 0, 0, 0, 0, false, OpD.none⟩

abbrev opV (o : OpD) : Value := .agg #[.int .i64 o.kind, .int .i64 o.h, .int .i64 o.i, .int .i64 o.n, .int .i64 o.k, .int .i64 o.v, .int .i64 o.t]

abbrev cliA (c : Cli) : Array Value := #[.int .i64 c.id, .int .i64 c.nodes, .int .i64 c.seq, .int .i64 c.view, .int .i64 c.target, .bool c.busy,
  .int .i64 c.op.kind, .int .i64 c.op.h, .int .i64 c.op.i, .int .i64 c.op.n, .int .i64 c.op.k, .int .i64 c.op.v, .int .i64 c.op.t]

abbrev cliV (c : Cli) : Value := .agg (cliA c)

/-- A message of which the entries and the text are not looked into. -/
structure Msg where
  kind : Int
  src : Int
  to : Int
  view : Int
  normal : Int
  number : Int
  base : Int
  commit : Int
  ents : Value
  offset : Int
  total : Int
  text : ByteArray
  seq : Int
  op : OpD
  code : Int
  value : Int
  ok : Bool

abbrev msgV (m : Msg) : Value := .agg #[.int .i64 m.kind, .int .i64 m.src, .int .i64 m.to, .int .i64 m.view, .int .i64 m.normal, .int .i64 m.number, .int .i64 m.base, .int .i64 m.commit,
  m.ents, .int .i64 m.offset, .int .i64 m.total, .string m.text, .int .i64 m.seq,
  .int .i64 m.op.kind, .int .i64 m.op.h, .int .i64 m.op.i, .int .i64 m.op.n, .int .i64 m.op.k, .int .i64 m.op.v, .int .i64 m.op.t, .int .i64 m.code, .int .i64 m.value, .bool m.ok]

def Msg.none : Msg := ⟨0, 0, 0, 0, 0, 0, 0, 0, .slice Option.none 0 0, 0, 0, ByteArray.empty, 0, OpD.none, 0, 0, false⟩

def headB (c : Cli) : Bool := nodesB c.nodes && withinB c.id 1 4 && withinB c.seq 0 1000000 && withinB c.view 0 900000000 && withinB c.target 1 c.nodes
def opNoneB (o : OpD) : Bool := o.kind == 0 && o.h == 0 && o.i == 0 && o.n == 0 && o.k == 0 && o.v == 0 && o.t == 0
def tailB (c : Cli) : Bool := if c.busy then decide (0 < c.seq) else opNoneB c.op
def rightB (c : Cli) : Bool := headB c && tailB c

def maxV (a b : Int) : Int := if a < b then b else a
theorem maxV_eq (a b : Int) : ∀ i : Decidable (a < b), @ite Int (a < b) i b a = maxV a b := fun i => by
  unfold maxV; by_cases h : a < b <;> simp [h]

def errB (b : Bool) : Int := if b then 0 else 170
end Go.Proofs.Ytieffajmdfjokaa
