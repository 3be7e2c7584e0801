/- The plain functions that the program computes, part 5: the instance of a row of tokens, or where it is wrong. No program, no memory. -/
import Derived.Test.YtoahaigfjfeopaaGreatDoorPb
import Derived.Test.YtoahaigfjfeopaaGreatDoorPc
import Derived.Test.YtoahaigfjfeopaaGreatDoorPe
namespace Go.Proofs.YtoahaigfjfeopaaGreatDoor

/-- Is the next token this word, or sign? -/
def isP (t : Tok) (s : List UInt8) : Bool := (t.kind == 1 || t.kind == 3) && decide (t.text = s)
/-- What is told, and what is still to be read; or where it is wrong, and how. -/
abbrev PR (α : Type) := Except (Int × Int) (α × List Tok)
/-- A token of which all is known behind: next. -/
def nextQ : List Tok → Tok × List Tok
  | [] => (default, [])
  | t :: r => (t, if t.kind = 4 then t :: r else r)
def isQ (s : List UInt8) : List Tok → Bool × List Tok
  | [] => (false, [])
  | t :: r => (isP t s, if isP t s then r else t :: r)
def signQ (s : List UInt8) : List Tok → PR Unit
  | [] => .error (0, 0)
  | t :: r => if isP t s then .ok ((), r) else .error (t.at_, 3)
def numberQ (m : Int) : List Tok → PR Tok
  | [] => .error (0, 0)
  | t :: r => if t.kind == 2 then (if smallB t.n m then .ok (t, r) else .error (t.at_, 4)) else .error (t.at_, 3)
def lastI (l : List Int) : Int := nth 0 l (l.length - 1)
def domQ : List Tok → List Int → PR (List Int)
  | [], _ => .error (0, 0)
  | t :: r, d =>
    if d.length ≠ 0 ∧ t.kind ≠ 2 then .ok (d, t :: r)
    else match numberQ 1000000 (t :: r) with
      | .error e => .error e
      | .ok _ => if 16 ≤ d.length then .error (t.at_, 7) else if d.length ≠ 0 ∧ t.n ≤ lastI d then .error (t.at_, 6) else domQ r (d ++ [t.n])
def varQ (nd : Nat) (l : List Int) : List Tok → PR (List Int)
  | [] => .error (0, 0)
  | t :: r => match numberQ 1000000000000 (t :: r) with
    | .error e => .error e
    | .ok _ => if 6 ≤ l.length then .error (t.at_, 7) else if 0 ≤ t.n ∧ t.n < nd ∧ (l.length = 0 ∨ lastI l < t.n) then .ok (l ++ [t.n], r) else .error (t.at_, 5)
def scopeQ (nd : Nat) : List Tok → List Int → PR (List Int)
  | [], _ => .error (0, 0)
  | t :: r, l =>
    if l.length ≠ 0 ∧ t.kind ≠ 2 then .ok (l, t :: r)
    else match varQ nd l (t :: r) with
      | .error e => .error e
      | .ok (l', _) => scopeQ nd r l'
def valsQ (doms : List (List Int)) : List Int → List Tok → PR (List Int)
  | [], ts => .ok ([], ts)
  | v :: ss, ts => match numberQ 1000000 ts with
    | .error e => .error e
    | .ok (t, r) => if t.n ∈ nth [] doms v.toNat then (match valsQ doms ss r with
        | .error e => .error e
        | .ok (ns, r') => .ok (t.n :: ns, r')) else .error (t.at_, 6)
def rowQ (doms : List (List Int)) (scope : List Int) (ahead : List (List Int)) (ts : List Tok) : PR (List (List Int)) :=
  match valsQ doms scope ts with
  | .error e => .error e
  | .ok (t, r) => if ahead.length = 0 ∨ cmpL (nth [] ahead (ahead.length - 1)) t < 0 then .ok (ahead ++ [t], r) else .error ((nth default ts 0).at_, 6)
def rowsQ (doms : List (List Int)) (scope : List Int) : Nat → List (List Int) → List Tok → PR (List (List Int))
  | 0, _, _ => .error (0, 0)
  | n + 1, ahead, ts => match rowQ doms scope ahead ts with
    | .error e => .error e
    | .ok (rows, r) => if (isQ [44] r).1 then rowsQ doms scope n rows (isQ [44] r).2 else .ok (rows, r)
/-- The multipliers and variables of a linear constraint. -/
def termsQ (nd : Nat) : Nat → List Int → List Int → List Tok → PR (List Int × List Int)
  | 0, _, _, _ => .error (0, 0)
  | n + 1, args, scope, ts => match numberQ 1000000 ts with
    | .error e => .error e
    | .ok (t, r) => if t.n = 0 then .error (t.at_, 4) else match varQ nd scope r with
      | .error e => .error e
      | .ok (scope', r') => if (isQ [44] r').1 then termsQ nd n (args ++ [t.n]) scope' (isQ [44] r').2 else .ok ((args ++ [t.n], scope'), r')
/-- Where a word stands in a row of words; -1: nowhere. -/
def wordFrom (s : List UInt8) : Nat → List (List UInt8) → Int
  | _, [] => -1
  | i, a :: r => if a = s then i else wordFrom s (i + 1) r
def linearQ (nd : Nat) (ts : List Tok) : PR (List Int × List Int) :=
  match termsQ nd (ts.length + 1) [] [] ts with
  | .error e => .error e
  | .ok ((args, scope), r) => match signQ [58] r with
    | .error e => .error e
    | .ok (_, r1) =>
      let t := (nextQ r1).1
      let how := wordFrom t.text 0 howsT
      if t.kind = 1 ∧ 0 ≤ how then (match numberQ 1000000 (nextQ r1).2 with
        | .error e => .error e
        | .ok (u, r2) => .ok ((args ++ [how, u.n], scope), r2)) else .error (t.at_, 3)
def tableQ (doms : List (List Int)) (scope : List Int) (ts : List Tok) : PR (List (List Int)) :=
  match signQ [58] ts with
  | .error e => .error e
  | .ok (_, r) => let t := nth default r 0
    if t.kind = 3 ∧ t.text = [59] then .ok ([], r) else rowsQ doms scope (r.length + 1) [] r
def hardQ (doms : List (List Int)) (kind : Int) (ts : List Tok) : PR Con :=
  if kind = 6 then (match linearQ doms.length ts with
    | .error e => .error e
    | .ok ((args, scope), r) => .ok (⟨kind, scope, [], args⟩, r))
  else match scopeQ doms.length ts [] with
    | .error e => .error e
    | .ok (scope, r) => if kind ≤ 2 then (match tableQ doms scope r with
        | .error e => .error e
        | .ok (rows, r') => .ok (⟨kind, scope, rows, []⟩, r')) else .ok (⟨kind, scope, [], []⟩, r)
def costsQ (doms : List (List Int)) (scope : List Int) : Nat → List (List Int) → List Int → List Tok → PR (List (List Int) × List Int)
  | 0, _, _, _ => .error (0, 0)
  | n + 1, rows, costs, ts => if (isQ [44] ts).1 then (match rowQ doms scope rows (isQ [44] ts).2 with
      | .error e => .error e
      | .ok (rows', r) => match numberQ 1000000000000 r with
        | .error e => .error e
        | .ok (t, r') => costsQ doms scope n rows' (costs ++ [t.n]) r') else .ok ((rows, costs), ts)
def softQ (doms : List (List Int)) (ts : List Tok) : PR Sft :=
  match scopeQ doms.length ts [] with
  | .error e => .error e
  | .ok (scope, r) => match signQ [58] r with
    | .error e => .error e
    | .ok (_, r1) => match numberQ 1000000000000 r1 with
      | .error e => .error e
      | .ok (t, r2) => match costsQ doms scope (r2.length + 1) [] [] r2 with
        | .error e => .error e
        | .ok ((rows, costs), r3) => .ok (⟨scope, rows, costs, t.n⟩, r3)
def stmtQ (x : Ins) (ts : List Tok) : PR Ins :=
  let t := (nextQ ts).1
  let r := (nextQ ts).2
  let kind := wordFrom t.text 0 wordsT
  if ¬ (t.kind = 1 ∧ (0 < kind ∨ t.text = varT ∨ t.text = softT)) then .error (t.at_, 3)
  else match (if t.text = varT then (if 40 ≤ x.doms.length then Except.error (t.at_, 7) else match domQ r [] with
        | .error e => .error e
        | .ok (d, r') => .ok ({ x with doms := x.doms ++ [d] }, r'))
      else if t.text = softT then (if 200 ≤ x.soft.length then .error (t.at_, 7) else match softQ x.doms r with
        | .error e => .error e
        | .ok (s, r') => .ok ({ x with soft := x.soft ++ [s] }, r'))
      else (if 200 ≤ x.hard.length then .error (t.at_, 7) else match hardQ x.doms kind r with
        | .error e => .error e
        | .ok (c, r') => .ok ({ x with hard := x.hard ++ [c] }, r')) : PR Ins) with
    | .error e => .error e
    | .ok (y, r') => match signQ [59] r' with
      | .error e => .error e
      | .ok (_, r2) => .ok (y, r2)
def stmtsQ : Nat → Ins → List Tok → Except (Int × Int) Ins
  | 0, _, _ => .error (0, 0)
  | n + 1, x, ts => if (nth default ts 0).kind = 4 then .ok x else match stmtQ x ts with
    | .error e => .error e
    | .ok (y, r) => stmtsQ n y r
/-- The instance of a text, or where it is wrong. -/
def parseP (l : List UInt8) : Except (Int × Int) Ins :=
  match allP l with
  | .error (p, x) => .error (p, x)
  | .ok ts => stmtsQ (ts.length + 1) ⟨[], [], []⟩ ts
end Go.Proofs.YtoahaigfjfeopaaGreatDoor
