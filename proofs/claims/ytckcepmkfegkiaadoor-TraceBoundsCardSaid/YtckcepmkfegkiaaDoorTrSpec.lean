/- Plain definitions: what the audit of a trace answers. No condition. -/
import Derived.WalkKit
namespace Go.Proofs.YtckcepmkfegkiaaDoor.TrS
open Go Go.RowKit
structure Ev where
  kind : Int
  task : Int
  slot : Int
  epoch : Int
  tick : Int
  deriving DecidableEq
structure Tk where
  live : Bool
  begun : Bool
  done : Bool
  start : Ev
  fails : Int
  stops : Int
  deriving DecidableEq
structure Tsk where
  mem : Int
  cost : Int
  deriving DecidableEq
structure Cf where
  budget : Int
  slots : Int
  active : Int
  queue : Int
  tries : Int
  preempts : Int
  timeout : Int
  backoff : Int
  most : Int
  quantum : Int
  deriving DecidableEq
def ev0 : Ev := ⟨0, 0, 0, 0, 0⟩
def tk0 : Tk := ⟨false, false, false, ev0, 0, 0⟩
abbrev wrap (n : Int) : Int := wrap64 n
def mxI (a b : Int) : Int := if a < b then b else a
def getT (ts : List Tk) (i : Int) : Tk := ts.getD i.toNat tk0
def getK (ks : List Tsk) (i : Int) : Tsk := ks.getD i.toNat ⟨0, 0⟩
def setT (ts : List Tk) (i : Int) (t : Tk) : List Tk := ts.set i.toNat t
def known (e : Ev) : Bool := decide (e.kind ≥ 1) && decide (e.kind ≤ 6)
def inB (c : Cf) (n : Nat) (e : Ev) : Bool := decide (e.task ≥ 0) && (decide (e.task < n) && (decide (e.slot ≥ 0) && decide (e.slot < c.slots)))
def may (c : Cf) (n : Nat) (tick : Int) (e : Ev) : Bool := known e && (inB c n e && (decide (e.epoch ≥ 0) && decide (e.tick ≥ tick)))
def addI (a b : Int) : Int × Bool := if (decide (wrap (a + b) < a) == decide (b < 0)) = true then (wrap (a + b), true) else (0, false)
def fitsL (ks : List Tsk) : List Tk → Int → Int → Option Int
  | [], _, all => some all
  | t :: ts, i, all =>
    if t.live = true then (if (addI all (mxI (getK ks i).mem 0)).2 = true then fitsL ks ts (i + 1) (addI all (mxI (getK ks i).mem 0)).1 else none)
    else fitsL ks ts (i + 1) all
def fits (c : Cf) (ks : List Tsk) (ts : List Tk) (n : Int) : Bool :=
  match fitsL ks ts 0 (mxI (getK ks n).mem 0) with
  | none => false
  | some all => decide (all ≤ c.budget)
def held (ts : List Tk) (slot : Int) : Bool := ts.any fun t => t.live && t.start.slot == slot
def starts (c : Cf) (ks : List Tsk) (ts : List Tk) (e : Ev) : Int × List Tk :=
  if ((getT ts e.task).live || ((getT ts e.task).done || held ts e.slot)) = true then (8, ts)
  else if (getT ts e.task).fails ≥ c.tries then (3, ts)
  else if (getT ts e.task).begun = true ∧ e.epoch ≤ (getT ts e.task).start.epoch then (7, ts)
  else if fits c ks ts e.task = true then (0, setT ts e.task { getT ts e.task with live := true, begun := true, start := e })
  else (5, ts)
def ends (c : Cf) (ts : List Tk) (e : Ev) : Int × List Tk :=
  if e.kind = 2 then (0, setT ts e.task { getT ts e.task with done := true })
  else if e.kind = 3 then (0, setT ts e.task { getT ts e.task with fails := wrap ((getT ts e.task).fails + 1) })
  else if e.kind = 4 then (0, ts)
  else if e.kind = 5 then
    if wrap (e.tick - (getT ts e.task).start.tick) < c.timeout then (10, ts)
    else (0, setT ts e.task { getT ts e.task with fails := wrap ((getT ts e.task).fails + 1) })
  else
    if (getT ts e.task).stops ≥ c.preempts then (3, ts)
    else (0, setT ts e.task { getT ts e.task with stops := wrap ((getT ts e.task).stops + 1) })
def off (ts : List Tk) (i : Int) : List Tk := setT ts i { getT ts i with live := false }
def takes (c : Cf) (ks : List Tsk) (ts : List Tk) (tick : Int) (e : Ev) : Int × List Tk × Int :=
  if may c ts.length tick e = true then
    if e.kind = 1 then ((starts c ks ts e).1, (starts c ks ts e).2, e.tick)
    else if ((getT ts e.task).live && (getT ts e.task).start.slot == e.slot && (getT ts e.task).start.epoch == e.epoch) = true then
      ((ends c ts e).1, off (ends c ts e).2 e.task, e.tick)
    else (6, ts, e.tick)
  else (1, ts, tick)
def auditL (c : Cf) (ks : List Tsk) : List Ev → List Tk → Int → Int → Int × Int
  | [], _, _, _ => (-1, 0)
  | e :: l, ts, tick, i => if (takes c ks ts tick e).1 = 0 then auditL c ks l (takes c ks ts tick e).2.1 (takes c ks ts tick e).2.2 (i + 1) else (i, (takes c ks ts tick e).1)
def audit (c : Cf) (ks : List Tsk) (l : List Ev) : Int × Int := auditL c ks l (List.replicate ks.length tk0) 0 0
end Go.Proofs.YtckcepmkfegkiaaDoor.TrS
