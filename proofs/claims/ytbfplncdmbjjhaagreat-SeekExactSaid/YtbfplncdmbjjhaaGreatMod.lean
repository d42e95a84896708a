/-
  What the structs of the program are, as data.
-/
import Derived.Test.YtbfplncdmbjjhaaGreatCal
set_option linter.unusedSimpArgs false
set_option linter.unusedVariables false
namespace Go.SL
structure AOp where
  kind : Int
  key : Int
  val : Int
  level : Int
deriving DecidableEq
structure Ans where
  err : Int
  done : Bool
  val : Int
deriving DecidableEq
structure HCall where
  thread : Int
  at_ : Int
  op : AOp
  from_ : Int
  to_ : Int
  ans : Ans
deriving DecidableEq
@[reducible] def AOp.v (o : AOp) : Value := .agg #[.int .i64 o.kind, .int .u64 o.key, .int .u64 o.val, .int .i64 o.level]
@[reducible] def Ans.v (a : Ans) : Value := .agg #[.int .i64 a.err, .bool a.done, .int .u64 a.val]
@[reducible] def HCall.v (c : HCall) : Value := .agg #[.int .i64 c.thread, .int .i64 c.at_, .int .i64 c.op.kind, .int .u64 c.op.key, .int .u64 c.op.val, .int .i64 c.op.level, .int .i64 c.from_, .int .i64 c.to_, .int .i64 c.ans.err, .bool c.ans.done, .int .u64 c.ans.val]
def HCall.ahead (a b : HCall) : Bool := decide (a.to_ ≠ -1) && decide (a.to_ < b.from_)
def Ans.zero : Ans := ⟨0, false, 0⟩
def HCall.bad (c : HCall) : Bool := decide (c.from_ < 0) || (decide (c.to_ < c.from_) && decide (c.to_ ≠ -1)) || (decide (c.to_ = -1) && decide (c.ans ≠ Ans.zero))
def HCall.clash (a b : HCall) : Bool := decide (a.thread = b.thread) && !(a.ahead b && decide (a.at_ < b.at_)) && !(b.ahead a && decide (b.at_ < a.at_))
structure Conf where
  kind : Int
  slots : Int
  buckets : Int
  height : Int
  limit : Int
deriving DecidableEq
structure Plc where
  kind : Int
  slot : Int
  part : Int
deriving DecidableEq
structure At where
  place : Plc
  id : Int
deriving DecidableEq
structure Val where
  word : Int
  id : Int
  stale : Bool
deriving DecidableEq
structure Who where
  slot : Int
  id : Int
deriving DecidableEq
structure Entry where
  slot : Int
  retired : Int
  id : Int
deriving DecidableEq
structure Count where
  loads : Int
  stores : Int
  swaps : Int
  failed : Int
  adds : Int
deriving DecidableEq
@[reducible] def Conf.v (c : Conf) : Value := .agg #[.int .i64 c.kind, .int .i64 c.slots, .int .i64 c.buckets, .int .i64 c.height, .int .i64 c.limit]
@[reducible] def Plc.v (p : Plc) : Value := .agg #[.int .i64 p.kind, .int .i64 p.slot, .int .i64 p.part]
@[reducible] def At.v (a : At) : Value := .agg #[.int .i64 a.place.kind, .int .i64 a.place.slot, .int .i64 a.place.part, .int .i64 a.id]
@[reducible] def Val.v (x : Val) : Value := .agg #[.int .u64 x.word, .int .i64 x.id, .bool x.stale]
@[reducible] def Who.v (w : Who) : Value := .agg #[.int .i64 w.slot, .int .i64 w.id]
@[reducible] def Entry.v (e : Entry) : Value := .agg #[.int .i64 e.slot, .int .i64 e.retired, .int .i64 e.id]
@[reducible] def Entry.l (e : Entry) : List Value := [.int .i64 e.slot, .int .i64 e.retired, .int .i64 e.id]
@[reducible] def Count.v (c : Count) : Value := .agg #[.int .i64 c.loads, .int .i64 c.stores, .int .i64 c.swaps, .int .i64 c.failed, .int .i64 c.adds]
def Count.zero : Count := ⟨0, 0, 0, 0, 0⟩
def epochP : Plc := ⟨1, 0, 0⟩

def Conf.kindOk (c : Conf) : Prop := 1 ≤ c.kind ∧ c.kind ≤ 3
def Conf.sizesOk (c : Conf) : Prop := (1 ≤ c.slots ∧ c.slots ≤ 8388607) ∧ (2 ≤ c.limit ∧ c.limit ≤ 1099511627775) ∧ (if c.kind = 2 then 1 ≤ c.buckets ∧ c.buckets ≤ 64 else c.buckets = 0) ∧ (if c.kind = 3 then 1 ≤ c.height ∧ c.height ≤ 16 else c.height = 1)
instance (c : Conf) : Decidable c.kindOk := by unfold Conf.kindOk; infer_instance
instance (c : Conf) : Decidable c.sizesOk := by unfold Conf.sizesOk; infer_instance
/-- The error of a structure. -/
def Conf.err (c : Conf) : Int := if c.kindOk then (if c.sizesOk then 0 else 3) else 8
abbrev ptr (b : Nat) : Value := .pointer (some ⟨b, 0, none⟩)
end Go.SL
