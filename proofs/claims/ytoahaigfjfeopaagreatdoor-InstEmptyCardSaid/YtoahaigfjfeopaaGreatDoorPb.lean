/- The plain functions that the program computes, part 2: which instances are right. No program, no memory. -/
import Derived.Test.YtoahaigfjfeopaaGreatDoorPa
namespace Go.Proofs.YtoahaigfjfeopaaGreatDoor

structure Con where
  kind : Int
  scope : List Int
  rows : List (List Int)
  args : List Int
  deriving DecidableEq, Inhabited
structure Sft where
  scope : List Int
  rows : List (List Int)
  costs : List Int
  dflt : Int
  deriving DecidableEq, Inhabited
structure Ins where
  doms : List (List Int)
  hard : List Con
  soft : List Sft
  deriving DecidableEq, Inhabited

def domainB (d : List Int) : Bool :=
  decide (0 < d.length) && decide (d.length ≤ 16) && risingB d && smallB (nth 0 d 0) 1000000 && smallB (nth 0 d (d.length - 1)) 1000000
def scopeB (n : Nat) (l : List Int) : Bool :=
  decide (0 < l.length) && decide (l.length ≤ 6) && risingB l && decide (0 ≤ nth 0 l 0) && decide (nth 0 l (l.length - 1) < n)
/-- A row's numbers, each held against its variable's domain. -/
def inDoms (doms : List (List Int)) : List Int → List Int → Bool
  | s :: ss, n :: ns => decide (n ∈ nth [] doms s.toNat) && inDoms doms ss ns
  | _, _ => true
/-- Rows over a scope, behind the one ahead. -/
def rowsB (doms : List (List Int)) (scope : List Int) : Option (List Int) → List (List Int) → Bool
  | _, [] => true
  | ahead, t :: r => decide (t.length = scope.length) && (match ahead with | none => true | some p => decide (cmpL p t < 0)) && inDoms doms scope t && rowsB doms scope (some t) r
def argsB (n : Nat) : Nat → List Int → Bool
  | _, [] => true
  | i, a :: r => !(decide (i < n) && decide (a = 0)) && smallB a 1000000 && argsB n (i + 1) r
def linearB (c : Con) : Bool :=
  decide (c.args.length = c.scope.length + 2) && decide (0 ≤ nth 0 c.args c.scope.length) && decide (nth 0 c.args c.scope.length ≤ 2) && argsB c.scope.length 0 c.args
def hardB (x : Ins) (c : Con) : Bool :=
  scopeB x.doms.length c.scope && decide (1 ≤ c.kind) && decide (c.kind ≤ 6) && !(decide (2 < c.kind) && decide (0 < c.rows.length)) &&
    if c.kind = 6 then linearB c else decide (c.args.length = 0) && rowsB x.doms c.scope none c.rows
def wideAny (l : List Int) : Bool := l.any fun n => !smallB n 1000000000000
def softB (x : Ins) (s : Sft) : Bool :=
  scopeB x.doms.length s.scope && decide (s.costs.length = s.rows.length) && smallB s.dflt 1000000000000 && !wideAny s.costs && rowsB x.doms s.scope none s.rows
def rightB (x : Ins) : Bool :=
  decide (x.doms.length ≤ 40) && decide (x.hard.length ≤ 200) && decide (x.soft.length ≤ 200) && x.doms.all domainB && x.hard.all (hardB x) && x.soft.all (softB x)
end Go.Proofs.YtoahaigfjfeopaaGreatDoor
