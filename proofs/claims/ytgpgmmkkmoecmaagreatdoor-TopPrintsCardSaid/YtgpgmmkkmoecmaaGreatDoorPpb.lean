/- Texts joined: Wr Pf Ws Wt Wu Bb Wv Ww Bc Wx Wy Bd. -/
import Derived.Test.YtgpgmmkkmoecmaaGreatDoorPpa
import Derived.WalkSmall
import Derived.StillTailTactics
import Derived.IntWalk
import Derived.Deep.LoopGhost
import Derived.Outline
import Derived.Deep.RegionHeld3
import Derived.Deep.DeepCutAuto
import Derived.Deep.DrawnRows
import Derived.OrdersHeld
/- inst.parser: must, more, next. -/
namespace Go.Proofs.YtgpgmmkkmoecmaaGreatDoor
open Go.RowKit

/-- How an error ends the reading of an instance: a panic that Parse recovers. -/
abbrev wrongs (p x : Int) : Ending := .panicked [{ v := .iface 77 (.agg #[.int .i64 p, .int .i64 x]), recovered := false }]

theorem must_ok (tk tn ta x : Int) (tb : ByteArray) (w : World) : Calls Tryz.prog 67 #[.bool true, .agg #[.int .i64 tk, .string tb, .int .i64 tn, .int .i64 ta], .int .i64 x] w fun e w' => e = .returned (.tuple #[]) ∧ Below w.heap.size w w' := by
  go_enter Tryz.func67, Tryz.ntmps67
  go_wp2
  all_goals go_end0
  all_goals exact ⟨rfl, below_alloc1 _ _⟩
theorem must_bad (tk tn ta x : Int) (tb : ByteArray) (w : World) : Calls Tryz.prog 67 #[.bool false, .agg #[.int .i64 tk, .string tb, .int .i64 tn, .int .i64 ta], .int .i64 x] w fun e w' => e = wrongs ta x ∧ Below w.heap.size w w' := by
  go_enter Tryz.func67, Tryz.ntmps67
  go_wp2
  all_goals exact ⟨rfl, rfl, below_alloc1 _ _⟩

/-- The parser's block: what is still to be read, and what is told so far. -/
def PB (g : Nat) (w : World) (ts : List Tok) (dv hv sv : Value) : Prop :=
  ∃ A n c, w.heap[g]? = some (.cells #[.slice A n c, dv, hv, sv] 80 (0, 0)) ∧ Sl kTok w (· < g) (.slice A n c) ts

theorem tok_head {w : World} {ok : Nat → Prop} {A : Option Addr} {n c : Nat} {t : Tok} {r : List Tok} (h : Sl kTok w ok (.slice A n c) (t :: r)) :
    ∃ b o, A = some ⟨b, o, none⟩ ∧ ok b ∧ n = r.length + 1 ∧ n ≤ c ∧ n ≤ 140737488355328 ∧ w.cell? ⟨b, o, none⟩ = some (.int .i64 t.kind) ∧ w.cell? ⟨b, o + 1, none⟩ = some (.string ⟨t.text.toArray⟩) ∧ w.cell? ⟨b, o + 2, none⟩ = some (.int .i64 t.n) ∧ w.cell? ⟨b, o + 3, none⟩ = some (.int .i64 t.at_) := by
  obtain ⟨A', c', he, hc, hm, hA⟩ := h
  injection he with h1 h2 h3
  subst h1 h2 h3
  obtain ⟨b, o, cs, rfl, hb, hk, hcs⟩ := hA 0 t rfl
  obtain ⟨_, _, rfl, rfl, ⟨_, _, rfl, rfl, ⟨_, _, rfl, rfl, rfl⟩⟩⟩ := hk
  refine ⟨b, o, rfl, hb, rfl, hc, hm, ?_, ?_, ?_, ?_⟩
  · exact hcs 0 _ rfl
  · exact hcs 1 _ rfl
  · exact hcs 2 _ rfl
  · exact hcs 3 _ rfl
theorem tok_tail {w : World} {ok : Nat → Prop} {b o n c : Nat} {t : Tok} {r : List Tok} (h : Sl kTok w ok (.slice (some ⟨b, o, none⟩) n c) (t :: r)) :
    Sl kTok w ok (.slice (some ⟨b, o + 4, none⟩) (n - 1) (c - 1)) r := by
  obtain ⟨A', c', he, hc, hm, hA⟩ := h
  injection he with h1 h2 h3
  subst h1 h2 h3
  refine ⟨_, _, rfl, by simp at hc; omega, by simp at hm; omega, fun j x hj => ?_⟩
  obtain ⟨b', o', cs, he, hb, hk, hcs⟩ := hA (j + 1) x (by simpa using hj)
  injection he with he
  injection he with he1 he2
  subst he1 he2
  refine ⟨b, o + 4, cs, rfl, hb, hk, fun i u hu => ?_⟩
  have := hcs i u hu
  rw [show o + 4 + (j * kTok.sz + i) = o + ((j + 1) * kTok.sz + i) by show o + 4 + (j * 4 + i) = o + ((j + 1) * 4 + i); omega]
  exact this
theorem PB.lt {g : Nat} {w : World} {ts : List Tok} {dv hv sv : Value} (h : PB g w ts dv hv sv) : g < w.heap.size := by
  obtain ⟨A, n, c, h, _⟩ := h; exact lt_of_block h
theorem PB.kept {g : Nat} {w w1 : World} {ts : List Tok} {dv hv sv : Value} (h : PB g w ts dv hv sv) (hb : Below (g + 1) w w1) : PB g w1 ts dv hv sv := by
  obtain ⟨A, n, c, h, hs⟩ := h
  exact ⟨A, n, c, (hb.block g (Nat.lt_succ_self g)).trans h, (hs.move (by decide) (fun k hk _ => hb.block k (by omega))).mono fun _ h => h.1⟩

theorem sl_nil {α : Type} {d : Kd α} {w : World} {ok : Nat → Prop} (A : Option Addr) (c : Nat) : Sl d w ok (.slice A 0 c) [] :=
  ⟨A, c, rfl, Nat.zero_le _, by simp, fun j x hj => by simp at hj⟩
theorem heap_set0 {W : World} {g : Nat} {a b c d : Value} {t : TypeId} (h : W.heap[g]? = some (.cells #[a, b, c, d] t (0, 0))) (x : Value) : (W.setCell ⟨g, 0, none⟩ x).heap[g]? = some (.cells #[x, b, c, d] t (0, 0)) := by
  simp [World.setCell, Array.getElem?_modify, h]
/-- What is behind a growth by another block. -/
theorem PB.grown {g : Nat} {w w1 : World} {ts : List Tok} {dv hv sv : Value} {row : Option Nat} (h : PB g w ts dv hv sv) (hg : w.grownBy w1 row) (hr : ∀ k, row = some k → g < k) : PB g w1 ts dv hv sv := by
  have hl := h.lt
  have hk : ∀ k, k ≤ g → w1.heap[k]? = w.heap[k]? := fun k hk => hg.block k (by omega) (fun e => by have := hr k e.symm; omega)
  obtain ⟨A, n, c, h, hs⟩ := h
  exact ⟨A, n, c, (hk g (Nat.le_refl _)).trans h, (hs.move (by decide) (fun k hk' _ => hk k (by have : k < g := hk'; omega))).mono fun _ h => h.1⟩
theorem PB.set {g : Nat} {w : World} {ts ts' : List Tok} {dv hv sv : Value} (h : PB g w ts dv hv sv) {A : Option Addr} {n c : Nat} (hs : Sl kTok w (· < g) (.slice A n c) ts') : PB g (w.setCell ⟨g, 0, none⟩ (.slice A n c)) ts' dv hv sv := by
  obtain ⟨A', n', c', h, _⟩ := h
  exact ⟨A, n, c, heap_set0 h _, (hs.move (by decide) (fun k hk _ => Go.Deep.blk_setCell_other _ _ _ _ (by have : k < g := hk; simp; omega))).mono fun _ h => h.1⟩

theorem more_any (g : Nat) (w : World) (t : Tok) (r : List Tok) (dv hv sv : Value) (h : PB g w (t :: r) dv hv sv) :
    Calls Tryz.prog 99 #[.pointer (some ⟨g, 0, none⟩)] w fun e w' => e = .returned (.bool (t.kind == 2)) ∧ w' = w := by
  obtain ⟨A, n, c, hg, hs⟩ := h
  obtain ⟨b, o, rfl, hb, hn, hnc, hmc, c0, c1, c2, c3⟩ := tok_head hs
  have g0 := cell_at hg (i := 0) rfl
  have hn0 : 0 < n := by omega
  clear hs hg hn
  go_enter Tryz.func99, Tryz.ntmps99
  go_wp2
  all_goals go_ret
  all_goals exact ⟨rfl, rfl⟩

theorem next_any (g : Nat) (w : World) (t : Tok) (r : List Tok) (dv hv sv : Value) (h : PB g w (t :: r) dv hv sv) :
    Calls Tryz.prog 65 #[.pointer (some ⟨g, 0, none⟩)] w fun e w' => e = .returned (.agg (tokC t).toArray) ∧ PB g w' (if t.kind = 4 then t :: r else r) dv hv sv ∧ w.grownBy w' (some g) := by
  have hgw := h.lt
  have H := Lib.hid h
  obtain ⟨A, n, c, hg, hs⟩ := h
  obtain ⟨b, o, rfl, hb, hn, hnc, hmc, c0, c1, c2, c3⟩ := tok_head hs
  have ht := Lib.hid (tok_tail hs)
  have g0 := cell_at hg (i := 0) rfl
  have f0 := Lib.frozen_of_heap hg 0
  have hn0 : 0 < n := by omega
  have hbw : b < w.heap.size := by omega
  have hbg : ¬ b = g := by omega
  have hT : Hid (tokC t = [.int .i64 t.kind, .string ⟨t.text.toArray⟩, .int .i64 t.n, .int .i64 t.at_]) := Lib.hid rfl
  generalize (ByteArray.mk t.text.toArray) = tb at c1 hT
  have HG := Lib.hid hg
  have HN := Lib.hid hn
  clear hs hg hn
  by_cases h4 : t.kind = 4
  · have h4' : (t.kind != 4) = false := by simp [h4]
    go_enter Tryz.func65, Tryz.ntmps65
    go_wp2
    all_goals refine bodyPost_ret (v := .agg #[.int .i64 4, .string tb, .int .i64 t.n, .int .i64 t.at_]) (by simp [results, Tryz.results65, go_sem]) rfl ?_
    all_goals refine ⟨by rw [hT.out, h4], ?_, ?_⟩
    · exact (H.out.grown (World.grownBy_alloc _ _ none) (by simp)).grown (World.grownBy_alloc _ _ none) (by simp)
    · exact (World.grownBy_alloc _ _ _).trans (World.grownBy_alloc _ _ _)
  · have h4' : (t.kind != 4) = true := by simp [h4]
    go_enter Tryz.func65, Tryz.ntmps65
    go_wp2
    all_goals refine bodyPost_ret (v := .agg #[.int .i64 t.kind, .string tb, .int .i64 t.n, .int .i64 t.at_]) (by simp [results, Tryz.results65, go_sem]) rfl ?_
    all_goals refine ⟨by rw [hT.out], ?_, ?_⟩
    · have hr : r = [] := List.eq_nil_of_length_eq_zero (by have := HN.out; omega)
      subst hr
      have hz : n - 1 = 0 := by have := HN.out; simp at this; omega
      rw [hz]
      exact ((H.out.set (sl_nil _ _)).grown (World.grownBy_alloc _ _ none) (by simp)).grown (World.grownBy_alloc _ _ none) (by simp)
    · exact ((grown_setCell3 _ _ _ _).trans (World.grownBy_alloc _ _ _)).trans (World.grownBy_alloc _ _ _)
    · exact ((H.out.set ht.out).grown (World.grownBy_alloc _ _ none) (by simp)).grown (World.grownBy_alloc _ _ none) (by simp)
    · exact ((grown_setCell3 _ _ _ _).trans (World.grownBy_alloc _ _ _)).trans (World.grownBy_alloc _ _ _)
end Go.Proofs.YtgpgmmkkmoecmaaGreatDoor

/- The plain functions that the program computes, part 5: the instance of a row of tokens, or where it is wrong. No program, no memory. -/
namespace Go.Proofs.YtgpgmmkkmoecmaaGreatDoor

/-- Is the next token this word, or sign? -/
def isP (t : Tok) (s : List UInt8) : Bool := (t.kind == 1 || t.kind == 3) && decide (t.text = s)
/-- What is told, and what is still to be read; or where it is wrong, and how. -/
abbrev PR (α : Type) := Except (Int × Int) (α × List Tok)
/-- A token of which all is known behind: next. -/
def nextQ : List Tok → Tok × List Tok
  | [] => (default, [])
  | t :: r => (t, if t.kind = 4 then t :: r else r)
def isQ (s : List UInt8) : List Tok → Bool × List Tok
  | [] => (false, [])
  | t :: r => (isP t s, if isP t s then r else t :: r)
def signQ (s : List UInt8) : List Tok → PR Unit
  | [] => .error (0, 0)
  | t :: r => if isP t s then .ok ((), r) else .error (t.at_, 3)
def numberQ (m : Int) : List Tok → PR Tok
  | [] => .error (0, 0)
  | t :: r => if t.kind == 2 then (if smallB t.n m then .ok (t, r) else .error (t.at_, 4)) else .error (t.at_, 3)
def lastI (l : List Int) : Int := nth 0 l (l.length - 1)
def domQ : List Tok → List Int → PR (List Int)
  | [], _ => .error (0, 0)
  | t :: r, d =>
    if d.length ≠ 0 ∧ t.kind ≠ 2 then .ok (d, t :: r)
    else match numberQ 1000000 (t :: r) with
      | .error e => .error e
      | .ok _ => if 16 ≤ d.length then .error (t.at_, 7) else if d.length ≠ 0 ∧ t.n ≤ lastI d then .error (t.at_, 6) else domQ r (d ++ [t.n])
def varQ (nd : Nat) (l : List Int) : List Tok → PR (List Int)
  | [] => .error (0, 0)
  | t :: r => match numberQ 1000000000000 (t :: r) with
    | .error e => .error e
    | .ok _ => if 6 ≤ l.length then .error (t.at_, 7) else if 0 ≤ t.n ∧ t.n < nd ∧ (l.length = 0 ∨ lastI l < t.n) then .ok (l ++ [t.n], r) else .error (t.at_, 5)
def scopeQ (nd : Nat) : List Tok → List Int → PR (List Int)
  | [], _ => .error (0, 0)
  | t :: r, l =>
    if l.length ≠ 0 ∧ t.kind ≠ 2 then .ok (l, t :: r)
    else match varQ nd l (t :: r) with
      | .error e => .error e
      | .ok (l', _) => scopeQ nd r l'
def valsQ (doms : List (List Int)) : List Int → List Tok → PR (List Int)
  | [], ts => .ok ([], ts)
  | v :: ss, ts => match numberQ 1000000 ts with
    | .error e => .error e
    | .ok (t, r) => if t.n ∈ nth [] doms v.toNat then (match valsQ doms ss r with
        | .error e => .error e
        | .ok (ns, r') => .ok (t.n :: ns, r')) else .error (t.at_, 6)
def rowQ (doms : List (List Int)) (scope : List Int) (ahead : List (List Int)) (ts : List Tok) : PR (List (List Int)) :=
  match valsQ doms scope ts with
  | .error e => .error e
  | .ok (t, r) => if ahead.length = 0 ∨ cmpL (nth [] ahead (ahead.length - 1)) t < 0 then .ok (ahead ++ [t], r) else .error ((nth default ts 0).at_, 6)
def rowsQ (doms : List (List Int)) (scope : List Int) : Nat → List (List Int) → List Tok → PR (List (List Int))
  | 0, _, _ => .error (0, 0)
  | n + 1, ahead, ts => match rowQ doms scope ahead ts with
    | .error e => .error e
    | .ok (rows, r) => if (isQ [44] r).1 then rowsQ doms scope n rows (isQ [44] r).2 else .ok (rows, r)
/-- The multipliers and variables of a linear constraint. -/
def termsQ (nd : Nat) : Nat → List Int → List Int → List Tok → PR (List Int × List Int)
  | 0, _, _, _ => .error (0, 0)
  | n + 1, args, scope, ts => match numberQ 1000000 ts with
    | .error e => .error e
    | .ok (t, r) => if t.n = 0 then .error (t.at_, 4) else match varQ nd scope r with
      | .error e => .error e
      | .ok (scope', r') => if (isQ [44] r').1 then termsQ nd n (args ++ [t.n]) scope' (isQ [44] r').2 else .ok ((args ++ [t.n], scope'), r')
/-- Where a word stands in a row of words; -1: nowhere. -/
def wordFrom (s : List UInt8) : Nat → List (List UInt8) → Int
  | _, [] => -1
  | i, a :: r => if a = s then i else wordFrom s (i + 1) r
def linearQ (nd : Nat) (ts : List Tok) : PR (List Int × List Int) :=
  match termsQ nd (ts.length + 1) [] [] ts with
  | .error e => .error e
  | .ok ((args, scope), r) => match signQ [58] r with
    | .error e => .error e
    | .ok (_, r1) =>
      let t := (nextQ r1).1
      let how := wordFrom t.text 0 howsT
      if t.kind = 1 ∧ 0 ≤ how then (match numberQ 1000000 (nextQ r1).2 with
        | .error e => .error e
        | .ok (u, r2) => .ok ((args ++ [how, u.n], scope), r2)) else .error (t.at_, 3)
def tableQ (doms : List (List Int)) (scope : List Int) (ts : List Tok) : PR (List (List Int)) :=
  match signQ [58] ts with
  | .error e => .error e
  | .ok (_, r) => let t := nth default r 0
    if t.kind = 3 ∧ t.text = [59] then .ok ([], r) else rowsQ doms scope (r.length + 1) [] r
def hardQ (doms : List (List Int)) (kind : Int) (ts : List Tok) : PR Con :=
  if kind = 6 then (match linearQ doms.length ts with
    | .error e => .error e
    | .ok ((args, scope), r) => .ok (⟨kind, scope, [], args⟩, r))
  else match scopeQ doms.length ts [] with
    | .error e => .error e
    | .ok (scope, r) => if kind ≤ 2 then (match tableQ doms scope r with
        | .error e => .error e
        | .ok (rows, r') => .ok (⟨kind, scope, rows, []⟩, r')) else .ok (⟨kind, scope, [], []⟩, r)
def costsQ (doms : List (List Int)) (scope : List Int) : Nat → List (List Int) → List Int → List Tok → PR (List (List Int) × List Int)
  | 0, _, _, _ => .error (0, 0)
  | n + 1, rows, costs, ts => if (isQ [44] ts).1 then (match rowQ doms scope rows (isQ [44] ts).2 with
      | .error e => .error e
      | .ok (rows', r) => match numberQ 1000000000000 r with
        | .error e => .error e
        | .ok (t, r') => costsQ doms scope n rows' (costs ++ [t.n]) r') else .ok ((rows, costs), ts)
def softQ (doms : List (List Int)) (ts : List Tok) : PR Sft :=
  match scopeQ doms.length ts [] with
  | .error e => .error e
  | .ok (scope, r) => match signQ [58] r with
    | .error e => .error e
    | .ok (_, r1) => match numberQ 1000000000000 r1 with
      | .error e => .error e
      | .ok (t, r2) => match costsQ doms scope (r2.length + 1) [] [] r2 with
        | .error e => .error e
        | .ok ((rows, costs), r3) => .ok (⟨scope, rows, costs, t.n⟩, r3)
def stmtQ (x : Ins) (ts : List Tok) : PR Ins :=
  let t := (nextQ ts).1
  let r := (nextQ ts).2
  let kind := wordFrom t.text 0 wordsT
  if ¬ (t.kind = 1 ∧ (0 < kind ∨ t.text = varT ∨ t.text = softT)) then .error (t.at_, 3)
  else match (if t.text = varT then (if 40 ≤ x.doms.length then Except.error (t.at_, 7) else match domQ r [] with
        | .error e => .error e
        | .ok (d, r') => .ok ({ x with doms := x.doms ++ [d] }, r'))
      else if t.text = softT then (if 200 ≤ x.soft.length then .error (t.at_, 7) else match softQ x.doms r with
        | .error e => .error e
        | .ok (s, r') => .ok ({ x with soft := x.soft ++ [s] }, r'))
      else (if 200 ≤ x.hard.length then .error (t.at_, 7) else match hardQ x.doms kind r with
        | .error e => .error e
        | .ok (c, r') => .ok ({ x with hard := x.hard ++ [c] }, r')) : PR Ins) with
    | .error e => .error e
    | .ok (y, r') => match signQ [59] r' with
      | .error e => .error e
      | .ok (_, r2) => .ok (y, r2)
def stmtsQ : Nat → Ins → List Tok → Except (Int × Int) Ins
  | 0, _, _ => .error (0, 0)
  | n + 1, x, ts => if (nth default ts 0).kind = 4 then .ok x else match stmtQ x ts with
    | .error e => .error e
    | .ok (y, r) => stmtsQ n y r
/-- The instance of a text, or where it is wrong. -/
def parseP (l : List UInt8) : Except (Int × Int) Ins :=
  match allP l with
  | .error (p, x) => .error (p, x)
  | .ok ts => stmtsQ (ts.length + 1) ⟨[], [], []⟩ ts
end Go.Proofs.YtgpgmmkkmoecmaaGreatDoor

/- inst.parser: is, sign, number. -/
namespace Go.Proofs.YtgpgmmkkmoecmaaGreatDoor
open Go.RowKit

theorem bytes_eq (a b : List UInt8) : ((ByteArray.mk a.toArray).toList == (ByteArray.mk b.toArray).toList) = decide (a = b) := by
  rw [ByteArray.toList_eq, ByteArray.toList_eq]
  by_cases h : a = b <;> simp [h]

set_option maxHeartbeats 1000000 in
theorem is_any (g : Nat) (w : World) (t : Tok) (r : List Tok) (dv hv sv : Value) (s : List UInt8) (h : PB g w (t :: r) dv hv sv) :
    Calls Tryz.prog 102 #[.pointer (some ⟨g, 0, none⟩), .string ⟨s.toArray⟩] w fun e w' => e = .returned (.bool (isP t s)) ∧ PB g w' (if isP t s then r else t :: r) dv hv sv ∧ w.grownBy w' (some g) := by
  have hgw := h.lt
  have H := Lib.hid h
  obtain ⟨A, n, c, hg, hs⟩ := h
  obtain ⟨b, o, rfl, hb, hn, hnc, hmc, c0, c1, c2, c3⟩ := tok_head hs
  have g0 := cell_at hg (i := 0) rfl
  have hn0 : 0 < n := by omega
  have hbw : b < w.heap.size := by omega
  have hbg : ¬ b = g := by omega
  have hT : Hid (isP t s = ((t.kind == 1 || t.kind == 3) && ((ByteArray.mk t.text.toArray).toList == (ByteArray.mk s.toArray).toList))) := Lib.hid (by unfold isP; simp only [bytes_eq])
  generalize (ByteArray.mk t.text.toArray) = tb at c1 hT
  generalize (ByteArray.mk s.toArray) = sb at hT ⊢
  clear hs hg hn
  by_cases hk : t.kind = 1 ∨ t.kind = 3
  · have hne : ¬ t.kind = 4 := by omega
    have hk13 : (t.kind == 1 || t.kind == 3) = true := by rcases hk with h | h <;> simp [h]
    have HK := Lib.hid hk13
    clear hk13
    by_cases hx : (tb.toList == sb.toList) = true
    · have HX : Hid (isP t s = true) := Lib.hid (by rw [hT.out, HK.out, hx]; rfl)
      rw [HX.out]
      rcases hk with hk | hk
      all_goals
        have hk1 : (t.kind != 1) = !(t.kind == 1) := rfl
        go_enter Tryz.func102, Tryz.ntmps102
        go_wp2_with (go_at_call 65; refine (next_any g _ t r dv hv sv (H.out.grown (World.grownBy_alloc _ _ none) (by simp))).mono ?_; rintro e w' ⟨rfl, hp, hg⟩)
        all_goals go_ret
        all_goals rw [if_neg hne] at hp
        all_goals exact ⟨rfl, hp, (World.grownBy_alloc _ _ _).trans hg⟩
    · have hx := Bool.eq_false_iff.2 hx
      have HX : Hid (isP t s = false) := Lib.hid (by rw [hT.out, HK.out, hx]; rfl)
      rw [HX.out]
      rcases hk with hk | hk
      all_goals
        go_enter Tryz.func102, Tryz.ntmps102
        go_wp2
        all_goals refine bodyPost_ret (v := .bool false) (by simp [results, Tryz.results102, go_sem]) rfl ?_
        all_goals exact ⟨rfl, H.out.grown (World.grownBy_alloc _ _ none) (by simp), World.grownBy_alloc _ _ _⟩
  · have hk1 : (t.kind != 1) = true := by simp; omega
    have hk3 : (t.kind != 3) = true := by simp; omega
    have HX : Hid (isP t s = false) := Lib.hid (by rw [hT.out]; simp at hk; simp [hk.1, hk.2])
    rw [HX.out]
    go_enter Tryz.func102, Tryz.ntmps102
    go_wp2
    all_goals refine bodyPost_ret (v := .bool false) (by simp [results, Tryz.results102, go_sem]) rfl ?_
    all_goals exact ⟨rfl, H.out.grown (World.grownBy_alloc _ _ none) (by simp), World.grownBy_alloc _ _ _⟩

/-- A row of tokens that does not end but at an end token. -/
def Toks : List Tok → Prop
  | [] => False
  | t :: r => t.kind = 4 ∨ Toks r
theorem Toks.cons {ts : List Tok} (h : Toks ts) : ∃ t r, ts = t :: r := by
  cases ts with
  | nil => exact h.elim
  | cons t r => exact ⟨t, r, rfl⟩
theorem Toks.tail {t : Tok} {r : List Tok} (h : Toks (t :: r)) (h4 : ¬ t.kind = 4) : Toks r := by
  rcases h with h | h
  · exact absurd h h4
  · exact h
theorem isP_kind {t : Tok} {s : List UInt8} (h : isP t s = true) : ¬ t.kind = 4 := by
  intro h4; simp [isP, h4] at h
theorem below_grown0 {w w1 : World} (h : Below w.heap.size w w1) (row : Option Nat) : w.grownBy w1 row := ⟨h.os, h.tape, h.output, h.size, fun k hk _ => h.block k hk⟩

set_option maxHeartbeats 1000000 in
theorem sign_any (g : Nat) (w : World) (t : Tok) (r : List Tok) (dv hv sv : Value) (s : List UInt8) (h : PB g w (t :: r) dv hv sv) (hT : Toks (t :: r)) :
    Calls Tryz.prog 71 #[.pointer (some ⟨g, 0, none⟩), .string ⟨s.toArray⟩] w fun e w' => (if isP t s then e = .returned (.tuple #[]) ∧ PB g w' r dv hv sv else e = wrongs t.at_ 3) ∧ w.grownBy w' (some g) := by
  have hc := Lib.hid (is_any g w t r dv hv sv s h)
  by_cases hi : isP t s = true
  · obtain ⟨t2, r2, rfl⟩ := (hT.tail (isP_kind hi)).cons
    rw [hi] at hc
    simp only [hi, if_true] at hc ⊢
    clear h hT hi
    go_enter Tryz.func71, Tryz.ntmps71
    go_wp2_with (go_at_call 102; refine hc.out.mono ?_)
    rintro e w1 ⟨rfl, hp, hg⟩
    have HP := Lib.hid hp
    have HG := Lib.hid hg
    have hgw := hp.lt
    obtain ⟨A, n, c, hgb, hs⟩ := hp
    obtain ⟨b, o, rfl, hb, hn, hnc, hmc, c0, c1, c2, c3⟩ := tok_head hs
    have g0 := cell_at hgb (i := 0) rfl
    have hn0 : 0 < n := by omega
    clear hc hg hgb hs hn
    generalize (ByteArray.mk t2.text.toArray) = tb at c1
    go_wp2_with (go_at_call 67; refine (must_ok _ _ _ _ _ _).mono ?_; rintro e w' ⟨rfl, hb2⟩)
    all_goals go_end0
    all_goals exact ⟨⟨rfl, HP.out.grown (below_grown0 hb2 none) (by simp)⟩, HG.out.trans (below_grown0 hb2 _)⟩
  · have hi := Bool.eq_false_iff.2 hi
    simp only [hi, if_false, Bool.false_eq_true] at hc ⊢
    clear h hT hi
    go_enter Tryz.func71, Tryz.ntmps71
    go_wp2_with (go_at_call 102; refine hc.out.mono ?_)
    rintro e w1 ⟨rfl, hp, hg⟩
    have HP := Lib.hid hp
    have HG := Lib.hid hg
    have hgw := hp.lt
    obtain ⟨A, n, c, hgb, hs⟩ := hp
    obtain ⟨b, o, rfl, hb, hn, hnc, hmc, c0, c1, c2, c3⟩ := tok_head hs
    have g0 := cell_at hgb (i := 0) rfl
    have hn0 : 0 < n := by omega
    clear hc hg hgb hs hn
    generalize (ByteArray.mk t.text.toArray) = tb at c1
    go_wp2_with (go_at_call 67; refine (must_bad _ _ _ _ _ _).mono ?_; rintro e w' ⟨rfl, hb2⟩)
    all_goals exact ⟨rfl, rfl, HG.out.trans (below_grown0 hb2 _)⟩
end Go.Proofs.YtgpgmmkkmoecmaaGreatDoor

/- inst.parser: number. -/
namespace Go.Proofs.YtgpgmmkkmoecmaaGreatDoor
open Go.RowKit

/-- A way that ends in the middle of a region: handed to the region's walk as an empty region. -/
theorem wpAny_shut {G : Prop} (P : Program) (a : Act) (w : World) (h : wpAny P .any #[] (fun _ _ _ => G) 0 #[] a w) : G := h.2
theorem grownBy_drew (w : World) (row : Option Nat) : w.grownBy w.drew row := below_grown0 (Below.drew (Below.refl _ _)) row
theorem PB.drew {g : Nat} {w : World} {ts : List Tok} {dv hv sv : Value} (h : PB g w ts dv hv sv) : PB g w.drew ts dv hv sv := h.grown (grownBy_drew w none) (by simp)
theorem PB.alloc {g : Nat} {w : World} {ts : List Tok} {dv hv sv : Value} (h : PB g w ts dv hv sv) (o : Obj) : PB g (w.alloc o) ts dv hv sv := h.grown (World.grownBy_alloc w o none) (by simp)

abbrev tokZ : Obj := .cells #[.int .i64 0, .string ⟨#[]⟩, .int .i64 0, .int .i64 0] 82

set_option maxRecDepth 100000 in
set_option maxHeartbeats 2000000 in
theorem number_p (g : Nat) (w : World) (t : Tok) (r : List Tok) (dv hv sv : Value) (m : Int) (h3 : 0 ≤ m) (h4 : m ≤ 9223372036854775807) (h : PB g w (t :: r) dv hv sv) :
    Calls Tryz.prog 100 #[.pointer (some ⟨g, 0, none⟩), .int .i64 m] w fun e w' => (if t.kind == 2 then (if smallB t.n m then e = .returned (.agg (tokC t).toArray) ∧ PB g w' r dv hv sv else e = wrongs t.at_ 4) else e = wrongs t.at_ 3) ∧ w.grownBy w' (some g) := by
  have hgw := h.lt
  have hP : PB g ((w.alloc tokZ).drew) (t :: r) dv hv sv := (h.alloc _).drew
  have hG : w.grownBy ((w.alloc tokZ).drew) (some g) := (World.grownBy_alloc _ _ _).trans (grownBy_drew _ _)
  have hX : ((w.alloc tokZ).drew).heap[w.heap.size]? = some tokZ := heap_alloc_new w _
  have HX := Lib.hid hX
  have HG := Lib.hid hG
  have HP := Lib.hid hP
  obtain ⟨A, n, c, hg, hs⟩ := hP
  obtain ⟨b, o, rfl, hb, hn, hnc, hmc, c0, c1, c2, c3⟩ := tok_head hs
  have g0 := cell_at hg (i := 0) rfl
  have hn0 : 0 < n := by omega
  have hT : Hid (tokC t = [.int .i64 t.kind, .string ⟨t.text.toArray⟩, .int .i64 t.n, .int .i64 t.at_]) := Lib.hid rfl
  generalize (ByteArray.mk t.text.toArray) = tb at c1 hT
  clear hs hg hn hX hG
  have hm := more_any g ((w.alloc tokZ).drew) t r dv hv sv HP.out
  by_cases hk : (t.kind == 2) = true
  · have hne : ¬ t.kind = 4 := by simp at hk; omega
    have hsa : ∀ w, Calls Tryz.prog 51 #[.int .i64 t.n, .int .i64 m] w fun e w' => e = .returned (.bool (smallB t.n m)) ∧ w' = w := fun w => (small_any t.n m w h3 h4).mono fun _ _ ⟨a, b⟩ => ⟨a, b.symm⟩
    have hWs : w.heap.size < (World.drew (w.alloc tokZ)).heap.size := lt_of_block HX.out
    by_cases hsm : smallB t.n m = true
    · simp only [hk, hsm, if_true] at hm hsa ⊢
      have HM := Lib.hid hm
      have HS := Lib.hid hsa
      clear hk hm h hsm hsa
      go_enter Tryz.func100, Tryz.ntmps100
      go_wp2_with fail
      refine wp_region_still_tail 8 (by kernel_rfl) (by kernel_rfl) ?_
      change wpStill _ _ (World.drew (w.alloc tokZ)) (fun a' => wpList _ _ _ _ a' (World.drew (w.alloc tokZ))) _ _
      generalize World.drew (w.alloc tokZ) = W at *
      simp only [List.take_succ_cons, List.take_zero, List.drop_succ_cons, List.drop_zero]
      repeat still_step
      still_call HM.out
      repeat still_step
      refine wpStill_nil ?_
      go_wp2_with (first
        | (go_at_call 67; refine (must_ok _ _ _ _ _ _).mono ?_; rintro e W2 ⟨rfl, hb2⟩; (have HP2 := Lib.hid (HP.out.grown (below_grown0 hb2 none) (by simp))); (have HG2 := Lib.hid (HG.out.trans (below_grown0 hb2 _))); (have HX2 := Lib.hid (block_kept hb2 HX.out)); clear hb2)
        | (go_at_call 65; refine (next_any g _ t r dv hv sv HP2.out).mono ?_; rintro e W3 ⟨rfl, hp3, hg3⟩; simp only [if_neg hne] at hp3; (have HP3 := Lib.hid hp3); (have HG3 := Lib.hid (HG2.out.trans hg3)); (have HX3 := Lib.hid ((hg3.block w.heap.size (lt_of_block HX2.out) (by simp; omega)).trans HX2.out)); clear hp3 hg3; rw [hT.out]))
      refine wp_region_still_tail 5 (by kernel_rfl) (by kernel_rfl) ?_
      change wpStill _ _ (World.drew (W3.alloc (.cells #[.int .i64 t.kind, .string tb, .int .i64 t.n, .int .i64 t.at_] 82))) (fun a' => wpList _ _ _ _ a' (World.drew (W3.alloc (.cells #[.int .i64 t.kind, .string tb, .int .i64 t.n, .int .i64 t.at_] 82)))) _ _
      have hX4 : (World.drew (W3.alloc (.cells #[.int .i64 t.kind, .string tb, .int .i64 t.n, .int .i64 t.at_] 82))).heap[W3.heap.size]? = _ := heap_alloc_new W3 _
      have HP4 := Lib.hid (HP3.out.alloc (.cells #[.int .i64 t.kind, .string tb, .int .i64 t.n, .int .i64 t.at_] 82)).drew
      have HG4 := Lib.hid ((HG3.out.trans (World.grownBy_alloc W3 (.cells #[.int .i64 t.kind, .string tb, .int .i64 t.n, .int .i64 t.at_] 82) _)).trans (grownBy_drew _ _))
      have HX4 := Lib.hid (((grownBy_drew _ none).block w.heap.size (lt_of_block (block_kept (below_alloc1 W3 (.cells #[.int .i64 t.kind, .string tb, .int .i64 t.n, .int .i64 t.at_] 82)) HX3.out)) (by simp)).trans (block_kept (below_alloc1 W3 (.cells #[.int .i64 t.kind, .string tb, .int .i64 t.n, .int .i64 t.at_] 82)) HX3.out))
      generalize World.drew (W3.alloc (.cells #[.int .i64 t.kind, .string tb, .int .i64 t.n, .int .i64 t.at_] 82)) = W4 at *
      generalize W3.heap.size = k4 at *
      have d0 := cell_at hX4 (i := 0) rfl
      have d1 := cell_at hX4 (i := 1) rfl
      have d2 := cell_at hX4 (i := 2) rfl
      have d3 := cell_at hX4 (i := 3) rfl
      have HB4 := Lib.hid hX4
      clear hX4 c0 c1 c2 c3 g0
      simp only [List.take_succ_cons, List.take_zero, List.drop_succ_cons, List.drop_zero]
      repeat still_step
      still_call HS.out _
      repeat still_step
      refine wpStill_nil ?_
      go_wp2_with (first
        | (go_at_call 67; refine (must_ok _ _ _ _ _ _).mono ?_; rintro e W5 ⟨rfl, hb5⟩; (have HP5 := Lib.hid (HP4.out.grown (below_grown0 hb5 none) (by simp))); (have HG5 := Lib.hid (HG4.out.trans (below_grown0 hb5 _))); (have HX5 := Lib.hid (block_kept hb5 HX4.out)); (have hB5 := block_kept hb5 HB4.out); (have e0 := cell_at hB5 (i := 0) rfl); (have e1 := cell_at hB5 (i := 1) rfl); (have e2 := cell_at hB5 (i := 2) rfl); (have e3 := cell_at hB5 (i := 3) rfl); clear hb5 hB5 d0 d1 d2 d3)
        | (refine wpList_store_abs rfl 82 _ _ rfl w.heap.size #[.int .i64 t.kind, .string tb, .int .i64 t.n, .int .i64 t.at_] rfl rfl 82 _ HX5.out (by kernel_rfl) rfl (by simp [Value.oneCell']) ?_))
      intro W6 hX6 hg6
      have f0 := cell_at hX6 (i := 0) rfl
      have f1 := cell_at hX6 (i := 1) rfl
      have f2 := cell_at hX6 (i := 2) rfl
      have f3 := cell_at hX6 (i := 3) rfl
      have HP6 := Lib.hid (HP5.out.grown hg6 (fun k hk => by injection hk with hk; omega))
      have HG6 := Lib.hid (HG5.out.andThen hg6 (fun j hj => by injection hj with hj; left; omega))
      simp only [List.getElem_toArray, List.getElem_cons_zero, List.getElem_cons_succ] at f0 f1 f2 f3
      clear hX6 hg6
      go_wp2
      refine bodyPost_ret (v := .agg #[.int .i64 t.kind, .string tb, .int .i64 t.n, .int .i64 t.at_]) (by simp [results, Tryz.results100, go_sem, f0, f1, f2, f3]) rfl ?_
      exact ⟨⟨by rw [hT.out], HP6.out⟩, HG6.out⟩
    · have hsm := Bool.eq_false_iff.2 hsm
      simp only [hk, hsm, if_true, if_false, Bool.false_eq_true] at hm hsa ⊢
      have HM := Lib.hid hm
      have HS := Lib.hid hsa
      clear hk hm h hsm hsa
      go_enter Tryz.func100, Tryz.ntmps100
      go_wp2_with fail
      refine wp_region_still_tail 8 (by kernel_rfl) (by kernel_rfl) ?_
      change wpStill _ _ (World.drew (w.alloc tokZ)) (fun a' => wpList _ _ _ _ a' (World.drew (w.alloc tokZ))) _ _
      generalize World.drew (w.alloc tokZ) = W at *
      simp only [List.take_succ_cons, List.take_zero, List.drop_succ_cons, List.drop_zero]
      repeat still_step
      still_call HM.out
      repeat still_step
      refine wpStill_nil ?_
      go_wp2_with (first
        | (go_at_call 67; refine (must_ok _ _ _ _ _ _).mono ?_; rintro e W2 ⟨rfl, hb2⟩; (have HP2 := Lib.hid (HP.out.grown (below_grown0 hb2 none) (by simp))); (have HG2 := Lib.hid (HG.out.trans (below_grown0 hb2 _))); (have HX2 := Lib.hid (block_kept hb2 HX.out)); clear hb2)
        | (go_at_call 65; refine (next_any g _ t r dv hv sv HP2.out).mono ?_; rintro e W3 ⟨rfl, hp3, hg3⟩; simp only [if_neg hne] at hp3; (have HP3 := Lib.hid hp3); (have HG3 := Lib.hid (HG2.out.trans hg3)); (have HX3 := Lib.hid ((hg3.block w.heap.size (lt_of_block HX2.out) (by simp; omega)).trans HX2.out)); clear hp3 hg3; rw [hT.out]))
      refine wp_region_still_tail 5 (by kernel_rfl) (by kernel_rfl) ?_
      change wpStill _ _ (World.drew (W3.alloc (.cells #[.int .i64 t.kind, .string tb, .int .i64 t.n, .int .i64 t.at_] 82))) (fun a' => wpList _ _ _ _ a' (World.drew (W3.alloc (.cells #[.int .i64 t.kind, .string tb, .int .i64 t.n, .int .i64 t.at_] 82)))) _ _
      have hX4 : (World.drew (W3.alloc (.cells #[.int .i64 t.kind, .string tb, .int .i64 t.n, .int .i64 t.at_] 82))).heap[W3.heap.size]? = _ := heap_alloc_new W3 _
      have HP4 := Lib.hid (HP3.out.alloc (.cells #[.int .i64 t.kind, .string tb, .int .i64 t.n, .int .i64 t.at_] 82)).drew
      have HG4 := Lib.hid ((HG3.out.trans (World.grownBy_alloc W3 (.cells #[.int .i64 t.kind, .string tb, .int .i64 t.n, .int .i64 t.at_] 82) _)).trans (grownBy_drew _ _))
      have HX4 := Lib.hid (((grownBy_drew _ none).block w.heap.size (lt_of_block (block_kept (below_alloc1 W3 (.cells #[.int .i64 t.kind, .string tb, .int .i64 t.n, .int .i64 t.at_] 82)) HX3.out)) (by simp)).trans (block_kept (below_alloc1 W3 (.cells #[.int .i64 t.kind, .string tb, .int .i64 t.n, .int .i64 t.at_] 82)) HX3.out))
      generalize World.drew (W3.alloc (.cells #[.int .i64 t.kind, .string tb, .int .i64 t.n, .int .i64 t.at_] 82)) = W4 at *
      generalize W3.heap.size = k4 at *
      have d0 := cell_at hX4 (i := 0) rfl
      have d1 := cell_at hX4 (i := 1) rfl
      have d2 := cell_at hX4 (i := 2) rfl
      have d3 := cell_at hX4 (i := 3) rfl
      have HB4 := Lib.hid hX4
      clear hX4 c0 c1 c2 c3 g0
      simp only [List.take_succ_cons, List.take_zero, List.drop_succ_cons, List.drop_zero]
      repeat still_step
      still_call HS.out _
      repeat still_step
      refine wpStill_nil ?_
      go_wp2_with (go_at_call 67; refine (must_bad _ _ _ _ _ _).mono ?_; rintro e W5 ⟨rfl, hb5⟩; exact ⟨rfl, rfl, HG4.out.trans (below_grown0 hb5 _)⟩)
  · have hk := Bool.eq_false_iff.2 hk
    simp only [hk, Bool.false_eq_true, if_false] at hm ⊢
    have HM := Lib.hid hm
    clear hk hm h
    go_enter Tryz.func100, Tryz.ntmps100
    go_wp2_with fail
    refine wp_region_still_tail 8 (by kernel_rfl) (by kernel_rfl) ?_
    change wpStill _ _ (World.drew (w.alloc tokZ)) (fun a' => wpList _ _ _ _ a' (World.drew (w.alloc tokZ))) _ _
    generalize World.drew (w.alloc tokZ) = W at *
    simp only [List.take_succ_cons, List.take_zero, List.drop_succ_cons, List.drop_zero]
    repeat still_step
    still_call HM.out
    repeat still_step
    refine wpStill_nil ?_
    go_wp2_with (go_at_call 67; refine (must_bad _ _ _ _ _ _).mono ?_; rintro e w' ⟨rfl, hb2⟩; exact ⟨rfl, rfl, HG.out.trans (below_grown0 hb2 _)⟩)
end Go.Proofs.YtgpgmmkkmoecmaaGreatDoor

/- Which blocks may have changed: the frame for the parser's methods. -/
namespace Go.Proofs.YtgpgmmkkmoecmaaGreatDoor
open Go.RowKit

/-- Only blocks in S, and new ones, may have changed. -/
structure Chg (S : Nat → Prop) (w w1 : World) : Prop where
  os : w1.os = w.os
  tape : w1.tape = w.tape
  output : w1.output = w.output
  size : w.heap.size ≤ w1.heap.size
  block : ∀ k, k < w.heap.size → ¬ S k → w1.heap[k]? = w.heap[k]?
theorem Chg.refl (S : Nat → Prop) (w : World) : Chg S w w := ⟨rfl, rfl, rfl, Nat.le_refl _, fun _ _ _ => rfl⟩
theorem Chg.trans {S T : Nat → Prop} {a b c : World} (h : Chg S a b) (k : Chg T b c) (hs : ∀ j, j < a.heap.size → T j → S j) : Chg S a c :=
  ⟨k.os.trans h.os, k.tape.trans h.tape, k.output.trans h.output, Nat.le_trans h.size k.size,
    fun j hj hn => (k.block j (Nat.lt_of_lt_of_le hj h.size) (fun ht => hn (hs j hj ht))).trans (h.block j hj hn)⟩
theorem Chg.mono {S T : Nat → Prop} {a b : World} (h : Chg S a b) (hs : ∀ j, j < a.heap.size → S j → T j) : Chg T a b :=
  ⟨h.os, h.tape, h.output, h.size, fun j hj hn => h.block j hj (fun hs' => hn (hs j hj hs'))⟩
theorem chg_of_grown {a b : World} {row : Option Nat} (h : a.grownBy b row) : Chg (fun k => row = some k) a b :=
  ⟨h.os, h.tape, h.output, h.size, fun j hj hn => h.block j hj (fun e => hn e.symm)⟩
theorem chg_of_below {a b : World} (h : Below a.heap.size a b) (S : Nat → Prop) : Chg S a b := ⟨h.os, h.tape, h.output, h.size, fun j hj _ => h.block j hj⟩
theorem Chg.below {S : Nat → Prop} {a b : World} {B : Nat} (h : Chg S a b) (hs : ∀ k, k < B → ¬ S k) (hB : B ≤ a.heap.size) : Below B a b :=
  ⟨h.os, h.tape, h.output, h.size, fun j hj => h.block j (Nat.lt_of_lt_of_le hj hB) (hs j hj)⟩
theorem Chg.heap {S : Nat → Prop} {a b : World} (h : Chg S a b) {k : Nat} {o : Obj} (hk : a.heap[k]? = some o) (hn : ¬ S k) : b.heap[k]? = some o :=
  (h.block k (Array.getElem?_eq_some_iff.1 hk).1 hn).trans hk
theorem Sl.chg {α : Type} {d : Kd α} {S : Nat → Prop} {a b : World} {ok : Nat → Prop} {v : Value} {xs : List α} (hz : 0 < d.sz) (h : Sl d a ok v xs) (hc : Chg S a b) (hs : ∀ k, ok k → ¬ S k) : Sl d b ok v xs :=
  (h.move hz fun k hk hl => hc.block k hl (hs k hk)).mono fun _ h => h.1
theorem PB.chg {g : Nat} {a b : World} {ts : List Tok} {dv hv sv : Value} {S : Nat → Prop} (h : PB g a ts dv hv sv) (hc : Chg S a b) (hs : ∀ k, k ≤ g → ¬ S k) : PB g b ts dv hv sv := by
  obtain ⟨A, n, c, h, hsl⟩ := h
  exact ⟨A, n, c, hc.heap h (hs g (Nat.le_refl _)), hsl.chg (by decide) hc fun k hk => hs k (Nat.le_of_lt hk)⟩
/-- A row of numbers of the call's own. -/
def OwnI (base : Nat) (v : Value) (xs : List Int) (w : World) : Prop := w.ownsRow base 3 1 v xs.length (xs.map (Value.int .i64))
theorem OwnI.sl {base : Nat} {v : Value} {xs : List Int} {w : World} (h : OwnI base v xs w) (hl : xs.length ≤ 140737488355328) : Sl (Kd.int .i64) w (base ≤ ·) v xs := by
  rcases h.2 with ⟨rfl, h0⟩ | ⟨g, cap, cur, rfl, hb, hg, hnc, hcm, hcs, ht⟩
  · obtain rfl : xs = [] := List.eq_nil_of_length_eq_zero h0
    exact sl_nil _ _
  · refine ⟨_, cap, rfl, hnc, hl, fun j x hj => ⟨g, 0, [.int .i64 x], rfl, hb, rfl, fun i u hu => ?_⟩⟩
    obtain rfl : i = 0 := by have := (List.getElem?_eq_some_iff.1 hu).1; simpa using this
    have hc := h.cells (g := g) rfl j (.int .i64 x) (by rw [List.getElem?_map, hj]; rfl)
    have e : (⟨g, 0, none⟩ : Addr).add j = ⟨g, 0 + j, none⟩ := by unfold Addr.add; split <;> simp_all
    rw [e] at hc
    simp at hu; subst hu
    show w.cell? ⟨g, 0 + (j * 1 + 0), none⟩ = _
    rw [Nat.mul_one, Nat.add_zero]
    exact hc
theorem OwnI.chg {base : Nat} {S : Nat → Prop} {v : Value} {xs : List Int} {a b : World} (h : OwnI base v xs a) (hc : Chg S a b) (hs : ∀ k, v.ownBlock = some k → ¬ S k) : OwnI base v xs b := by
  obtain ⟨h1, h2⟩ := h
  refine ⟨by first | exact Nat.le_trans h1 hc.size | exact h1, ?_⟩
  rcases h2 with ⟨rfl, h0⟩ | ⟨g, cap, cur, rfl, hb, hg, r⟩
  · exact .inl ⟨rfl, h0⟩
  · exact .inr ⟨g, cap, cur, rfl, hb, by first | exact hc.heap hg (hs g rfl) | exact (hc.block g (Array.getElem?_eq_some_iff.1 hg).1 (hs g rfl)).trans hg, r⟩
end Go.Proofs.YtgpgmmkkmoecmaaGreatDoor

/- Regions that draw their order, walked in one order: steps that do not carry the region's text along. Plain lemmas over the model; no program. -/
namespace Go.Proofs.YtgpgmmkkmoecmaaGreatDoor
open Go.RowKit

section
variable {P : Program} {ops : Array Oper} {w : World} {Q : Act → Prop} {a : Act} {o : Oper} {rest : List Oper}
theorem still_plain (hg : o.guard = none) (h : ∀ K : Act → Prop, (∀ a, wpStill P ops w Q rest a → K a) → o.still P a w K) : wpStill P ops w Q (o :: rest) a := by
  have hw : Region.wanted o (yielded ops a.tmps) = true := by simp [Region.wanted, hg]
  unfold wpStill
  rw [if_pos hw]
  exact h _ fun _ h => h
theorem still_on (i : Nat) (b : Bool) (oi : Oper) (d : Nat) (hg : o.guard = some (i, b)) (hoi : ops[i]? = some oi) (hd : oi.dst = some d) (hv : a.tmps[d]? = some (.bool b))
    (h : ∀ K : Act → Prop, (∀ a, wpStill P ops w Q rest a → K a) → o.still P a w K) : wpStill P ops w Q (o :: rest) a := by
  have hw : Region.wanted o (yielded ops a.tmps) = true := by simp [Region.wanted, hg, yielded, hoi, hd, hv]
  unfold wpStill
  rw [if_pos hw]
  exact h _ fun _ h => h
theorem still_off (i : Nat) (b c : Bool) (oi : Oper) (d : Nat) (hg : o.guard = some (i, b)) (hoi : ops[i]? = some oi) (hd : oi.dst = some d) (hv : a.tmps[d]? = some (.bool c)) (hbc : (c == b) = false)
    (h : ∀ K : Act → Prop, (∀ a, wpStill P ops w Q rest a → K a) → K (a.put o.dst undef)) : wpStill P ops w Q (o :: rest) a := by
  have hw : Region.wanted o (yielded ops a.tmps) = false := by
    simp only [Region.wanted, hg, yielded, hoi, hd, hv, Option.bind_some]
    cases b <;> cases c <;> simp_all
  unfold wpStill
  rw [if_neg (by rw [hw]; decide)]
  exact h _ fun _ h => h
/-- The slot's operation was guarded out: its own guard's slot is empty. -/
theorem still_dead (i : Nat) (b : Bool) (oi : Oper) (d : Nat) (hg : o.guard = some (i, b)) (hoi : ops[i]? = some oi) (hd : oi.dst = some d) (hv : a.tmps[d]? = some undef)
    (h : ∀ K : Act → Prop, (∀ a, wpStill P ops w Q rest a → K a) → K (a.put o.dst undef)) : wpStill P ops w Q (o :: rest) a := by
  have hw : Region.wanted o (yielded ops a.tmps) = false := by
    simp only [Region.wanted, hg, yielded, hoi, hd, hv, Option.bind_some, undef]
    cases b <;> simp
  unfold wpStill
  rw [if_neg (by rw [hw]; decide)]
  exact h _ fun _ h => h
end
theorem run_make_rowN {P : Program} (t e : TypeId) (i : TypeInfo) (z : Value) (ht : P.underlying t = some (.slice e)) (hi : P.info? e = some i) (hz : i.zero = some z)
    (kl kc : IntKind) (n c : Nat) (hnc : n ≤ c) (hbytes : i.bytes * c ≤ 281474976710656) (h63 : c ≤ 9223372036854775807) (w : World) :
    (Instr.makeSlice t (.int kl (n : Int)) (.int kc (c : Int))).run P w = .ok (.slice (some ⟨w.heap.size, 0, none⟩) n c) (w.alloc (.cells (madeCells z.cells (c * i.size)) e)) := by
  have hb : (i.bytes : Int) * (c : Int) ≤ 281474976710656 := by
    have h : ((i.bytes * c : Nat) : Int) ≤ 281474976710656 := by omega
    rwa [Int.natCast_mul] at h
  have hr := run_make (P := P) w t e i z ht hi hz kl kc n c (by omega) (by omega) hb (by omega)
  simp only [Int.toNat_natCast] at hr
  exact hr
theorem calls_turn {P : Program} {f : FuncId} {args : Array Value} {w : World} {v : Value} (h : Calls P f args w fun e w' => e = .returned v ∧ w = w') : Calls P f args w fun e w' => e = .returned v ∧ w' = w :=
  h.mono fun _ _ hh => ⟨hh.1, hh.2.symm⟩
end Go.Proofs.YtgpgmmkkmoecmaaGreatDoor

/- inst.parser: variable. -/
namespace Go.Proofs.YtgpgmmkkmoecmaaGreatDoor
open Go.RowKit
attribute [local irreducible] wpStill

theorem must_yes (b : Bool) (tk tn ta x : Int) (tb : ByteArray) (w : World) (hb : b = true) : Calls Tryz.prog 67 #[.bool b, .agg #[.int .i64 tk, .string tb, .int .i64 tn, .int .i64 ta], .int .i64 x] w fun e w' => e = .returned (.tuple #[]) ∧ Below w.heap.size w w' := by
  subst hb; exact must_ok tk tn ta x tb w
theorem must_no (b : Bool) (tk tn ta x : Int) (tb : ByteArray) (w : World) (hb : b = false) : Calls Tryz.prog 67 #[.bool b, .agg #[.int .i64 tk, .string tb, .int .i64 tn, .int .i64 ta], .int .i64 x] w fun e w' => e = wrongs ta x ∧ Below w.heap.size w w' := by
  subst hb; exact must_bad tk tn ta x tb w
theorem chg_g {g : Nat} {a b : World} (h : a.grownBy b (some g)) (S : Nat → Prop) (hs : S g) : Chg S a b :=
  (chg_of_grown h).mono fun j _ hj => by injection hj with hj; rw [← hj]; exact hs
theorem Chg.alloc {S : Nat → Prop} {a b : World} (h : Chg S a b) (o : Obj) : Chg S a (b.alloc o) := h.trans (chg_of_below (below_alloc1 b o) (fun _ => False)) (fun _ _ h => h.elim)
theorem Chg.drew {S : Nat → Prop} {a b : World} (h : Chg S a b) : Chg S a b.drew := h.trans (chg_of_below (Below.drew (Below.refl _ _)) (fun _ => False)) (fun _ _ h => h.elim)
theorem Chg.thenBelow {S : Nat → Prop} {a b c : World} (h : Chg S a b) (hb : Below b.heap.size b c) : Chg S a c := h.trans (chg_of_below hb (fun _ => False)) (fun _ _ h => h.elim)
/-- The last number of a row of the call's own. -/
theorem OwnI.cell {base : Nat} {A : Option Addr} {n c : Nat} {xs : List Int} {w : World} (h : OwnI base (.slice A n c) xs w) {j : Nat} (hj : j < xs.length) :
    ∃ b, A = some ⟨b, 0, none⟩ ∧ base ≤ b ∧ w.cell? ⟨b, j, none⟩ = some (.int .i64 (nth 0 xs j)) := by
  rcases h.2 with ⟨_, h0⟩ | ⟨g, cap, cur, hv, hb, _⟩
  · omega
  · injection hv with hv1 hv2 hv3
    subst hv1 hv2 hv3
    have hc := h.cells (g := g) rfl j (.int .i64 (nth 0 xs j)) (by rw [List.getElem?_map, nth_get 0 xs j hj]; rfl)
    have e : (⟨g, 0, none⟩ : Addr).add j = ⟨g, j, none⟩ := by unfold Addr.add; split <;> simp_all
    rw [e] at hc
    exact ⟨g, rfl, hb, hc⟩

/-- What a method tells: what was read and what is left, or where it is wrong. -/
def Out {α : Type} (res : PR α) (ok : α → List Tok → Prop) (e : Ending) : Prop :=
  match res with
  | .error (p, x) => e = wrongs p x
  | .ok (a, r) => ok a r
def VarOut (g base : Nat) (w w' : World) (dv hv sv v : Value) (e : Ending) (l' : List Int) (r' : List Tok) : Prop :=
  ∃ v', e = .returned v' ∧ OwnI base v' l' w' ∧ PB g w' r' dv hv sv ∧ (v'.ownBlock = v.ownBlock ∨ ∃ k, v'.ownBlock = some k ∧ w.heap.size ≤ k)

set_option maxRecDepth 100000 in
set_option maxHeartbeats 4000000 in
theorem variable_p (g base : Nat) (w : World) (t : Tok) (r : List Tok) (DA : Option Addr) (nd Dc : Nat) (hv sv : Value) (l : List Int) (v : Value)
    (h : PB g w (t :: r) (.slice DA nd Dc) hv sv) (_ : nd ≤ 140737488355328) (hgb : g < base) (hbs : base ≤ w.heap.size) (hl : OwnI base v l w) (hle : l.length ≤ 6) :
    Calls Tryz.prog 159 #[.pointer (some ⟨g, 0, none⟩), v] w fun e w' => Out (varQ nd l (t :: r)) (VarOut g base w w' (.slice DA nd Dc) hv sv v e) e ∧ Chg (fun k => k = g ∨ v.ownBlock = some k) w w' := by
  have hn := Lib.hid (number_p g w t r _ hv sv 1000000000000 (by decide) (by decide) h)
  have hgw := h.lt
  have hlS := hl.sl (by omega)
  obtain ⟨A, c, rfl, hc, hm, hA⟩ := hlS
  by_cases hk : (t.kind == 2) = true
  · by_cases hsm : smallB t.n 1000000000000 = true
    · have hQ : varQ nd l (t :: r) = if 6 ≤ l.length then .error (t.at_, 7) else if 0 ≤ t.n ∧ t.n < nd ∧ (l.length = 0 ∨ lastI l < t.n) then .ok (l ++ [t.n], r) else .error (t.at_, 5) := by simp [varQ, numberQ, hk, hsm]
      rw [hQ]
      simp only [hk, hsm, if_true] at hn
      have hT : Hid (tokC t = [.int .i64 t.kind, .string ⟨t.text.toArray⟩, .int .i64 t.n, .int .i64 t.at_]) := Lib.hid rfl
      generalize (ByteArray.mk t.text.toArray) = tb at hT
      by_cases h6 : 6 ≤ l.length
      · simp only [h6, if_true]
        clear hk hA hsm hQ
        go_enter Tryz.func159, Tryz.ntmps159
        go_wp2_with (go_at_call 100; refine hn.out.mono ?_; rintro e W2 ⟨⟨rfl, hp2⟩, hg2⟩; (have HG2 := Lib.hid hg2); clear hg2 hp2; rw [hT.out])
        refine (must_no _ _ _ _ _ _ _ (by simp; omega)).mono ?_
        rintro e W3 ⟨rfl, hb3⟩
        exact ⟨rfl, rfl, ((chg_g HG2.out _ (Or.inl rfl)).alloc _).thenBelow hb3⟩
      · simp only [h6, if_false]
        obtain ⟨res, hres⟩ : ∃ x : PR (List Int), x = (if 0 ≤ t.n ∧ t.n < nd ∧ (l.length = 0 ∨ lastI l < t.n) then .ok (l ++ [t.n], r) else .error (t.at_, 5)) := ⟨_, rfl⟩
        rw [← hres]
        have HR := Lib.hid hres
        have HC := Lib.hid hc
        have HL := Lib.hid hl
        clear hk hA hsm hQ h hl hres
        go_enter Tryz.func159, Tryz.ntmps159
        go_wp2_with (go_at_call 100; refine hn.out.mono ?_; rintro e W2 ⟨⟨rfl, hp2⟩, hg2⟩; (have HG2 := Lib.hid ((chg_g hg2 (fun k => k = g ∨ (Value.slice A l.length c).ownBlock = some k) (Or.inl rfl)).alloc (.cells #[.int .i64 t.kind, .string tb, .int .i64 t.n, .int .i64 t.at_] 82))); (have HP2 := Lib.hid (hp2.alloc (.cells #[.int .i64 t.kind, .string tb, .int .i64 t.n, .int .i64 t.at_] 82))); (have HL2 := Lib.hid ((HL.out.chg (chg_of_grown hg2) (fun k hk e => by injection e with e; have := (HL.out.lt k hk).1; omega)).chg (chg_of_below (below_alloc1 W2 (.cells #[.int .i64 t.kind, .string tb, .int .i64 t.n, .int .i64 t.at_] 82)) (fun _ => False)) (fun _ _ h => h.elim))); clear hg2 hp2; rw [hT.out])
        refine (must_yes _ _ _ _ _ _ _ (by simp; omega)).mono ?_
        rintro e W3 ⟨rfl, hb3⟩
        have HX3 := Lib.hid (block_kept hb3 (heap_alloc_new W2 _))
        have HG3 := Lib.hid (HG2.out.thenBelow hb3).drew
        have HP3 := Lib.hid (HP2.out.grown (below_grown0 hb3 none) (by simp)).drew
        have HL3 := Lib.hid (HL2.out.chg (chg_of_below (hb3.trans (Below.drew (Below.refl _ _))) (fun _ => False)) (fun _ _ h => h.elim))
        clear hb3 HG2 HP2 HL2 hn HL
        go_wp2_with fail
        refine wp_region_still_tail 31 (by kernel_rfl) (by kernel_rfl) ?_
        change wpStill _ _ (World.drew W3) (fun a' => wpList _ _ _ _ a' (World.drew W3)) _ _
        have HX4 : Hid ((World.drew W3).heap[W2.heap.size]? = _) := HX3
        generalize World.drew W3 = W at *
        generalize W2.heap.size = k2 at *
        clear HX3
        have hPg := HP3.out.lt
        obtain ⟨A', n', c', hgb, _⟩ := HP3.out
        have g1 := cell_at hgb (i := 1) rfl
        have d0 := cell_at HX4.out (i := 0) rfl
        have d1 := cell_at HX4.out (i := 1) rfl
        have d2 := cell_at HX4.out (i := 2) rfl
        have d3 := cell_at HX4.out (i := 3) rfl
        clear hgb
        simp only [List.take_succ_cons, List.take_zero, List.drop_succ_cons, List.drop_zero]
        obtain ⟨i0, hi, hz0, hz1, hz2⟩ := info_parts (show (Tryz.prog.info? 3).map (fun i => (i.zero, i.size, i.bytes)) = some (some (.int .i64 0), 1, 8) by kernel_rfl)
        obtain ⟨i0, hi, hz0, hz1, hz2⟩ := info_parts (show (Tryz.prog.info? 3).map (fun i => (i.zero, i.size, i.bytes)) = some (some (.int .i64 0), 1, 8) by kernel_rfl)
        obtain ⟨i0, hi, hz0, hz1, hz2⟩ := info_parts (show (Tryz.prog.info? 3).map (fun i => (i.zero, i.size, i.bytes)) = some (some (.int .i64 0), 1, 8) by kernel_rfl)
        obtain ⟨i0, hi, hz0, hz1, hz2⟩ := info_parts (show (Tryz.prog.info? 3).map (fun i => (i.zero, i.size, i.bytes)) = some (some (.int .i64 0), 1, 8) by kernel_rfl)
        obtain ⟨i0, hi, hz0, hz1, hz2⟩ := info_parts (show (Tryz.prog.info? 3).map (fun i => (i.zero, i.size, i.bytes)) = some (some (.int .i64 0), 1, 8) by kernel_rfl)
        obtain ⟨i0, hi, hz0, hz1, hz2⟩ := info_parts (show (Tryz.prog.info? 3).map (fun i => (i.zero, i.size, i.bytes)) = some (some (.int .i64 0), 1, 8) by kernel_rfl)
        obtain ⟨i0, hi, hz0, hz1, hz2⟩ := info_parts (show (Tryz.prog.info? 3).map (fun i => (i.zero, i.size, i.bytes)) = some (some (.int .i64 0), 1, 8) by kernel_rfl)
        by_cases h1 : 0 ≤ t.n
        · by_cases h2 : t.n < nd
          · by_cases h3 : l.length = 0
            · obtain rfl : l = [] := List.eq_nil_of_length_eq_zero h3
              repeat (first | (refine still_plain rfl (fun K hK => ?_); go_simp; refine hK _ ?_; clear hK K) | (refine still_off _ _ _ _ _ rfl rfl rfl rfl rfl (fun K hK => ?_); go_simp; refine hK _ ?_; clear hK K) | (refine still_on _ _ _ _ rfl rfl rfl rfl (fun K hK => ?_); go_simp; refine hK _ ?_; clear hK K) | (refine still_dead _ _ _ _ rfl rfl rfl rfl (fun K hK => ?_); go_simp; refine hK _ ?_; clear hK K))
              refine wpStill_nil ?_
              go_wp2_with (first
                | (go_at_call 67; refine (must_ok _ _ _ _ _ _).mono ?_; rintro e W5 ⟨rfl, hb5⟩; (have HX5 := Lib.hid (block_kept hb5 HX4.out)); (have HG5 := Lib.hid (HG3.out.thenBelow hb5)); (have HP5 := Lib.hid (HP3.out.grown (below_grown0 hb5 none) (by simp))); (have HL5 := Lib.hid (HL3.out.chg (chg_of_below hb5 (fun _ => False)) (fun _ _ h => h.elim))); (have e2 := cell_at HX5.out (i := 2) rfl); clear hb5 d0 d1 d2 d3 HX4 HG3 HP3 HL3 g1)
                | (at_builtin; refine wpList_append_own_at _ rfl _ _ 32 rfl base 3 i0 _ 1 8 Tryz.underlying32 hi hz0 hz1 hz2 rfl (by decide) _ ([] : List Int).length (([] : List Int).map (Value.int .i64)) rfl (HL5.out.alloc _) ⟨_, 0, none⟩ 1 1 [.int .i64 t.n] rfl rfl ?c1 ?c2 ?c3 ?c4 ?c5 ?_))
              case c1 => exact World.news_of_block (cs := #[.int .i64 t.n]) (t := 3) (fr := (0, 0)) (heap_alloc_new W5 _)
              case c2 => simp [Value.oneCell']
              case c3 => (try simp only [maxLen]); (try simp); try omega
              case c4 => (try simp); try omega
              case c5 => have := HG5.out.size; simp; omega
              intro v' w2 hown' hgrow _ hat
              have HO2 := Lib.hid hown'
              have HG2 := Lib.hid hgrow
              have HA2 := Lib.hid hat
              clear hown' hgrow hat
              go_wp2
              go_ret
              refine ⟨?_, (HG5.out.alloc _).trans (chg_of_grown HG2.out) (fun j _ hj => Or.inr hj)⟩
              rw [HR.out, if_pos (by simp; omega)]
              refine ⟨v', rfl, ?_, (HP5.out.alloc _).grown HG2.out (fun k hk => by have := (HL5.out.lt k hk).1; omega), ?_⟩
              · have := HO2.out
                unfold OwnI
                simpa using this
              · rcases HA2.out with h | h
                · exact Or.inl h
                · exact Or.inr ⟨_, h, by have := HG5.out.size; simp; omega⟩
            · obtain ⟨b, rfl, hb, hbc⟩ := OwnI.cell HL3.out (j := l.length - 1) (by omega)
              have hbc' : W.cell? ⟨b, l.length - 1, none⟩ = some (.int .i64 (lastI l)) := hbc
              have h3b : ((l.length : Int) == 0) = false := beq_eq_false_iff_ne.2 (by omega)
              have h3p : 0 < l.length := by omega
              have w1 : IntKind.i64.wrap ((l.length : Int) - 1) = (l.length : Int) - 1 := IntWalk.i64_in _ (by omega)
              have w2 : ((l.length : Int) - 1).toNat = l.length - 1 := by omega
              have w3 : (0 : Int) ≤ (l.length : Int) - 1 := by omega
              have w5 : (1 : Int) ≤ (l.length : Int) := by omega
              have w4 : (l.length : Int) - 1 < (l.length : Int) := by omega
              clear hbc h3
              by_cases h4 : lastI l < t.n
              · repeat (first | (refine still_plain rfl (fun K hK => ?_); go_simp; refine hK _ ?_; clear hK K) | (refine still_off _ _ _ _ _ rfl rfl rfl rfl rfl (fun K hK => ?_); go_simp; refine hK _ ?_; clear hK K) | (refine still_on _ _ _ _ rfl rfl rfl rfl (fun K hK => ?_); go_simp; refine hK _ ?_; clear hK K) | (refine still_dead _ _ _ _ rfl rfl rfl rfl (fun K hK => ?_); go_simp; refine hK _ ?_; clear hK K))
                refine wpStill_nil ?_
                go_wp2_with (first
                  | (go_at_call 67; refine (must_ok _ _ _ _ _ _).mono ?_; rintro e W5 ⟨rfl, hb5⟩; (have HX5 := Lib.hid (block_kept hb5 HX4.out)); (have HG5 := Lib.hid (HG3.out.thenBelow hb5)); (have HP5 := Lib.hid (HP3.out.grown (below_grown0 hb5 none) (by simp))); (have HL5 := Lib.hid (HL3.out.chg (chg_of_below hb5 (fun _ => False)) (fun _ _ h => h.elim))); (have e2 := cell_at HX5.out (i := 2) rfl); clear hb5 d0 d1 d2 d3 HX4 HG3 HP3 HL3 g1)
                  | (at_builtin; refine wpList_append_own_at _ rfl _ _ 32 rfl base 3 i0 _ 1 8 Tryz.underlying32 hi hz0 hz1 hz2 rfl (by decide) _ l.length (l.map (Value.int .i64)) rfl (HL5.out.alloc _) ⟨_, 0, none⟩ 1 1 [.int .i64 t.n] rfl rfl ?c1 ?c2 ?c3 ?c4 ?c5 ?_))
                case c1 => exact World.news_of_block (cs := #[.int .i64 t.n]) (t := 3) (fr := (0, 0)) (heap_alloc_new W5 _)
                case c2 => simp [Value.oneCell']
                case c3 => (try simp only [maxLen]); (try simp); try omega
                case c4 => (try simp); try omega
                case c5 => have := HG5.out.size; simp; omega
                intro v' w2 hown' hgrow _ hat
                have HO2 := Lib.hid hown'
                have HG2 := Lib.hid hgrow
                have HA2 := Lib.hid hat
                clear hown' hgrow hat
                go_wp2
                go_ret
                refine ⟨?_, (HG5.out.alloc _).trans (chg_of_grown HG2.out) (fun j _ hj => Or.inr hj)⟩
                rw [HR.out, if_pos (by simp; omega)]
                refine ⟨v', rfl, ?_, (HP5.out.alloc _).grown HG2.out (fun k hk => by have := (HL5.out.lt k hk).1; omega), ?_⟩
                · have := HO2.out
                  unfold OwnI
                  simpa using this
                · rcases HA2.out with h | h
                  · exact Or.inl h
                  · exact Or.inr ⟨_, h, by have := HG5.out.size; simp; omega⟩
              · repeat (first | (refine still_plain rfl (fun K hK => ?_); go_simp; refine hK _ ?_; clear hK K) | (refine still_off _ _ _ _ _ rfl rfl rfl rfl rfl (fun K hK => ?_); go_simp; refine hK _ ?_; clear hK K) | (refine still_on _ _ _ _ rfl rfl rfl rfl (fun K hK => ?_); go_simp; refine hK _ ?_; clear hK K) | (refine still_dead _ _ _ _ rfl rfl rfl rfl (fun K hK => ?_); go_simp; refine hK _ ?_; clear hK K))
                refine wpStill_nil ?_
                go_wp2_with (go_at_call 67; refine (must_bad _ _ _ _ _ _).mono ?_; rintro e W5 ⟨rfl, hb5⟩; refine ⟨rfl, ?_, HG3.out.thenBelow hb5⟩; rw [HR.out, if_neg (by omega)]; exact rfl)
          · repeat (first | (refine still_plain rfl (fun K hK => ?_); go_simp; refine hK _ ?_; clear hK K) | (refine still_off _ _ _ _ _ rfl rfl rfl rfl rfl (fun K hK => ?_); go_simp; refine hK _ ?_; clear hK K) | (refine still_on _ _ _ _ rfl rfl rfl rfl (fun K hK => ?_); go_simp; refine hK _ ?_; clear hK K) | (refine still_dead _ _ _ _ rfl rfl rfl rfl (fun K hK => ?_); go_simp; refine hK _ ?_; clear hK K))
            refine wpStill_nil ?_
            go_wp2_with (go_at_call 67; refine (must_bad _ _ _ _ _ _).mono ?_; rintro e W5 ⟨rfl, hb5⟩; refine ⟨rfl, ?_, HG3.out.thenBelow hb5⟩; rw [HR.out, if_neg (by omega)]; exact rfl)
        · repeat (first | (refine still_plain rfl (fun K hK => ?_); go_simp; refine hK _ ?_; clear hK K) | (refine still_off _ _ _ _ _ rfl rfl rfl rfl rfl (fun K hK => ?_); go_simp; refine hK _ ?_; clear hK K) | (refine still_on _ _ _ _ rfl rfl rfl rfl (fun K hK => ?_); go_simp; refine hK _ ?_; clear hK K) | (refine still_dead _ _ _ _ rfl rfl rfl rfl (fun K hK => ?_); go_simp; refine hK _ ?_; clear hK K))
          refine wpStill_nil ?_
          go_wp2_with (go_at_call 67; refine (must_bad _ _ _ _ _ _).mono ?_; rintro e W5 ⟨rfl, hb5⟩; refine ⟨rfl, ?_, HG3.out.thenBelow hb5⟩; rw [HR.out, if_neg (by omega)]; exact rfl)
    · have hsm := Bool.eq_false_iff.2 hsm
      have hQ : varQ nd l (t :: r) = .error (t.at_, 4) := by simp [varQ, numberQ, hk, hsm]
      rw [hQ]
      simp only [hk, hsm, Bool.false_eq_true, if_false, if_true] at hn
      clear hk hA hsm
      go_enter Tryz.func159, Tryz.ntmps159
      go_wp2_with (go_at_call 100; refine hn.out.mono ?_; rintro e W2 ⟨rfl, hg2⟩; exact ⟨rfl, rfl, chg_g hg2 _ (Or.inl rfl)⟩)
  · have hk := Bool.eq_false_iff.2 hk
    have hQ : varQ nd l (t :: r) = .error (t.at_, 3) := by simp [varQ, numberQ, hk]
    rw [hQ]
    simp only [hk, Bool.false_eq_true, if_false] at hn
    clear hk hA
    go_enter Tryz.func159, Tryz.ntmps159
    go_wp2_with (go_at_call 100; refine hn.out.mono ?_; rintro e W2 ⟨rfl, hg2⟩; exact ⟨rfl, rfl, chg_g hg2 _ (Or.inl rfl)⟩)
end Go.Proofs.YtgpgmmkkmoecmaaGreatDoor

/- inst.parser: scope. -/
namespace Go.Proofs.YtgpgmmkkmoecmaaGreatDoor
open Go.RowKit
attribute [local irreducible] wpStill

theorem varQ_ok {nd : Nat} {l l' : List Int} {t : Tok} {r r' : List Tok} (h : varQ nd l (t :: r) = .ok (l', r')) : t.kind = 2 ∧ r' = r ∧ l' = l ++ [t.n] ∧ l.length < 6 := by
  by_cases hk : (t.kind == 2) = true
  · by_cases hsm : smallB t.n 1000000000000 = true
    · simp only [varQ, numberQ, hk, hsm, if_true] at h
      split at h
      · cases h
      · split at h
        · injection h with h
          injection h with h1 h2
          exact ⟨by simpa using hk, h2.symm, h1.symm, by omega⟩
        · cases h
    · simp [varQ, numberQ, hk, hsm] at h
  · simp [varQ, numberQ, hk] at h
theorem scopeQ_err {nd : Nat} {l : List Int} {t : Tok} {r : List Tok} {e : Int × Int} (h0 : l.length = 0 ∨ t.kind = 2) (h : varQ nd l (t :: r) = .error e) : scopeQ nd (t :: r) l = .error e := by
  rw [scopeQ, if_neg (by omega), h]
theorem scopeQ_ok {nd : Nat} {l : List Int} {t : Tok} {r : List Tok} {p : List Int × List Tok} (h0 : l.length = 0 ∨ t.kind = 2) (h : varQ nd l (t :: r) = .ok p) : scopeQ nd (t :: r) l = scopeQ nd r p.1 := by
  rw [scopeQ, if_neg (by omega), h]
/-- The row of a scope, and what is left. -/
def ScopeOut (g base : Nat) (w' : World) (dv hv sv : Value) (e : Ending) (l' : List Int) (r' : List Tok) : Prop :=
  ∃ v', e = .returned v' ∧ OwnI base v' l' w' ∧ l'.length ≤ 6 ∧ 0 < l'.length ∧ PB g w' r' dv hv sv ∧ Toks r'
def ScopeRel (g : Nat) (w : World) (dv hv sv : Value) (nd : Nat) (ts : List Tok) (k : Nat) (v : Value) (wr : World) : Prop :=
  ∃ t r l, k = (t :: r).length ∧ scopeQ nd ts [] = scopeQ nd (t :: r) l ∧ OwnI w.heap.size v l wr ∧ l.length ≤ 6 ∧ PB g wr (t :: r) dv hv sv ∧ Toks (t :: r) ∧ Chg (fun k => k = g) w wr

set_option maxRecDepth 100000 in
set_option maxHeartbeats 4000000 in
theorem scope_p (g : Nat) (w : World) (ts : List Tok) (DA : Option Addr) (nd Dc : Nat) (hv sv : Value) (h : PB g w ts (.slice DA nd Dc) hv sv) (hT : Toks ts) (hnd : nd ≤ 140737488355328) :
    Calls Tryz.prog 101 #[.pointer (some ⟨g, 0, none⟩)] w fun e w' => Out (scopeQ nd ts []) (ScopeOut g w.heap.size w' (.slice DA nd Dc) hv sv e) e ∧ Chg (fun k => k = g) w w' := by
  have hgw := h.lt
  obtain ⟨t, r, rfl⟩ := hT.cons
  have H := Lib.hid h
  have HT := Lib.hid hT
  clear h hT
  go_enter Tryz.func101, Tryz.ntmps101
  go_wp2
  go_loopg [2] (t :: r).length (fun k v wr => ScopeRel g w (.slice DA nd Dc) hv sv nd (t :: r) k v wr)
  case atStart => exact ⟨t, r, [], rfl, rfl, World.ownsRow_nil _ _ _ _, by simp, H.out, HT.out, Chg.refl _ _⟩
  case round =>
    clear H HT
    obtain ⟨t2, r2, l, hk, hq, hl, hle, hp, hT, hch⟩ := hrel
    subst hk
    have hlS := hl.sl (by omega)
    obtain ⟨A, c, rfl, hc, hm, _⟩ := hlS
    have HQ := Lib.hid hq
    have HL := Lib.hid hl
    have HP := Lib.hid hp
    have HT := Lib.hid hT
    have HG := Lib.hid hch
    have hbs := hch.size
    have hvc := Lib.hid (variable_p g w.heap.size wr t2 r2 DA nd Dc hv sv l _ hp hnd hgw hbs hl hle)
    have hmc := Lib.hid (more_any g wr t2 r2 _ _ _ hp)
    clear hq hl hp hT hch
    by_cases hout : ¬ l.length = 0 ∧ ¬ t2.kind = 2
    · obtain ⟨h0, h2⟩ := hout
      have hb0 : ((l.length : Int) == 0) = false := beq_eq_false_iff_ne.2 (by omega)
      have hb2 : (t2.kind == 2) = false := beq_eq_false_iff_ne.2 h2
      have HR : Hid (scopeQ nd (t :: r) [] = .ok (l, t2 :: r2)) := Lib.hid (by rw [HQ.out]; unfold scopeQ; rw [if_pos ⟨h0, h2⟩])
      go_wp2_with (go_at_call 99; refine hmc.out.mono ?_; rintro e w' ⟨rfl, rfl⟩)
      go_ret
      refine ⟨?_, HG.out⟩
      rw [HR.out]
      exact ⟨_, rfl, HL.out, hle, by omega, HP.out, HT.out⟩
    · have hway : l.length = 0 ∨ (0 < l.length ∧ t2.kind = 2) := by omega
      have hway2 : l.length = 0 ∨ t2.kind = 2 := by omega
      clear hout
      have hch2 : ∀ w', Chg (fun k => k = g ∨ (Value.slice A l.length c).ownBlock = some k) wr w' → Chg (fun k => k = g) w w' := fun w' h => HG.out.trans h (fun j hj hs => by
        rcases hs with hs | hs
        · exact hs
        · have := (HL.out.lt j hs).1; omega)
      have HC := Lib.hid hch2
      clear hch2
      rcases hv : varQ nd l (t2 :: r2) with ⟨p, x⟩ | ⟨l', r'⟩
      · have HR : Hid (scopeQ nd (t :: r) [] = .error (p, x)) := Lib.hid (by rw [HQ.out]; exact scopeQ_err hway2 hv)
        rw [hv] at hvc
        rcases hway with h0 | ⟨h0, h2⟩
        · have hb0 : ((l.length : Int) == 0) = true := beq_iff_eq.2 (by omega)
          clear hv h0 hway2
          go_wp2_with (go_at_call 159; refine hvc.out.mono ?_; rintro e w' ⟨he, hg⟩; obtain rfl : e = wrongs p x := he; refine ⟨rfl, ?_⟩; rw [HR.out]; exact ⟨rfl, HC.out _ hg⟩)
        · have hb0 : ((l.length : Int) == 0) = false := beq_eq_false_iff_ne.2 (by omega)
          have hb2 : (t2.kind == 2) = true := beq_iff_eq.2 h2
          clear hv h2 hway2
          go_wp2_with (first
            | (go_at_call 99; refine hmc.out.mono ?_; rintro e w' ⟨rfl, rfl⟩)
            | (go_at_call 159; refine hvc.out.mono ?_; rintro e w' ⟨he, hg⟩; obtain rfl : e = wrongs p x := he; refine ⟨rfl, ?_⟩; rw [HR.out]; exact ⟨rfl, HC.out _ hg⟩))
      · obtain ⟨hk2, rfl, hl', hl6⟩ := varQ_ok hv
        have HR : Hid (scopeQ nd (t :: r) [] = scopeQ nd r' l') := Lib.hid (by rw [HQ.out]; exact scopeQ_ok hway2 hv)
        have HT2 := Lib.hid (HT.out.tail (by omega))
        have hl6' : l'.length ≤ 6 := by rw [hl']; simp; omega
        have HL' := Lib.hid hl'
        rw [hv] at hvc
        obtain ⟨t3, r3, rfl⟩ := HT2.out.cons
        rcases hway with h0 | ⟨h0, h2⟩
        · have hb0 : ((l.length : Int) == 0) = true := beq_iff_eq.2 (by omega)
          clear hv h0 hway2 hk2 hl'
          go_wp2_with (go_at_call 159; refine hvc.out.mono ?_; rintro e w' ⟨⟨v', rfl, ho', hp', _⟩, hg⟩; (have HO' := Lib.hid ho'); (have HP' := Lib.hid hp'); (have HG' := Lib.hid hg); clear ho' hp' hg)
          go_roundg (t3 :: r3).length
          case rel => exact ⟨t3, r3, l', rfl, HR.out, HO'.out, hl6', HP'.out, HT2.out, HC.out _ HG'.out⟩
          case measure => simp
        · have hb0 : ((l.length : Int) == 0) = false := beq_eq_false_iff_ne.2 (by omega)
          have hb2 : (t2.kind == 2) = true := beq_iff_eq.2 h2
          clear hv h2 hway2 hk2 hl'
          go_wp2_with (first
            | (go_at_call 99; refine hmc.out.mono ?_; rintro e w' ⟨rfl, rfl⟩)
            | (go_at_call 159; refine hvc.out.mono ?_; rintro e w' ⟨⟨v', rfl, ho', hp', _⟩, hg⟩; (have HO' := Lib.hid ho'); (have HP' := Lib.hid hp'); (have HG' := Lib.hid hg); clear ho' hp' hg))
          go_roundg (t3 :: r3).length
          case rel => exact ⟨t3, r3, l', rfl, HR.out, HO'.out, hl6', HP'.out, HT2.out, HC.out _ HG'.out⟩
          case measure => simp
end Go.Proofs.YtgpgmmkkmoecmaaGreatDoor

/- Rows of the call's own whose elements lead to finished data. Plain lemmas over the model; no program. -/
namespace Go.Proofs.YtgpgmmkkmoecmaaGreatDoor
open Go.RowKit

/-- A row of the call's own; what its elements lead to lies in blocks that 'ok' names, and no longer changes. -/
def OwnD {α : Type} (d : Kd α) (E : TypeId) (base : Nat) (ok : Nat → Prop) (v : Value) (xs : List α) (w : World) : Prop :=
  ∃ css : List (List Value), css.length = xs.length ∧ (∀ (j : Nat) (x : α) (cs : List Value), xs[j]? = some x → css[j]? = some cs → d.K w ok x cs) ∧ w.ownsRow base E d.sz v xs.length css.flatten ∧ (∀ k, v.ownBlock = some k → ¬ ok k)

theorem flat_at (sz : Nat) : ∀ (css : List (List Value)), (∀ cs ∈ css, cs.length = sz) → ∀ (j : Nat) (cs : List Value), css[j]? = some cs → ∀ i u, cs[i]? = some u → css.flatten[j * sz + i]? = some u
  | [], _, j, cs, h, _, _, _ => by simp at h
  | a :: r, hl, j, cs, h, i, u, hu => by
    rw [List.flatten_cons]
    cases j with
    | zero =>
      simp at h; subst h
      have hi : i < a.length := (List.getElem?_eq_some_iff.1 hu).1
      rw [Nat.zero_mul, Nat.zero_add, List.getElem?_append_left hi]; exact hu
    | succ j =>
      simp at h
      have ha : a.length = sz := hl a (List.mem_cons_self ..)
      rw [List.getElem?_append_right (by rw [ha, Nat.succ_mul]; omega), show (j + 1) * sz + i - a.length = j * sz + i by rw [ha, Nat.succ_mul]; omega]
      exact flat_at sz r (fun cs hc => hl cs (List.mem_cons_of_mem _ hc)) j cs h i u hu
theorem OwnD.nil {α : Type} (d : Kd α) (E : TypeId) (base : Nat) (ok : Nat → Prop) (w : World) : OwnD d E base ok (.slice none 0 0) [] w :=
  ⟨[], rfl, fun j x cs h => by simp at h, World.ownsRow_nil _ _ _ _, fun k h => by simp [Value.ownBlock] at h⟩
theorem OwnD.own {α : Type} {d : Kd α} {E : TypeId} {base : Nat} {ok : Nat → Prop} {v : Value} {xs : List α} {w : World} (h : OwnD d E base ok v xs w) : ∀ k, v.ownBlock = some k → base ≤ k ∧ k < w.heap.size ∧ ¬ ok k := by
  obtain ⟨css, _, _, h3, h4⟩ := h
  exact fun k hk => ⟨(h3.lt k hk).1, (h3.lt k hk).2, h4 k hk⟩
theorem OwnD.sl {α : Type} {d : Kd α} {E : TypeId} {base : Nat} {ok : Nat → Prop} {v : Value} {xs : List α} {w : World} (h : OwnD d E base ok v xs w) (hl : xs.length ≤ 140737488355328) :
    Sl d w (fun k => ok k ∨ v.ownBlock = some k) v xs := by
  obtain ⟨css, h1, h2, h3, h4⟩ := h
  have hsz : ∀ cs ∈ css, cs.length = d.sz := by
    intro cs hc
    obtain ⟨j, hj, rfl⟩ := List.mem_iff_getElem.1 hc
    have hx : xs[j]? = some xs[j] := List.getElem?_eq_getElem (by omega)
    exact d.len (h2 j _ _ hx (List.getElem?_eq_getElem hj))
  have H3 := h3
  rcases h3.2 with ⟨rfl, h0⟩ | ⟨g, cap, cur, rfl, hb, hg, hnc, hcm, hcs, ht⟩
  · obtain rfl : xs = [] := List.eq_nil_of_length_eq_zero h0
    exact ⟨none, 0, rfl, Nat.le_refl _, by simp, fun j x hx => by simp at hx⟩
  · refine ⟨_, cap, rfl, hnc, hl, fun j x hj => ?_⟩
    have hjl : j < xs.length := (List.getElem?_eq_some_iff.1 hj).1
    have hcj : css[j]? = some css[j] := List.getElem?_eq_getElem (by omega)
    refine ⟨g, 0, css[j], rfl, .inr rfl, d.mono (fun _ h => .inl h) (h2 j x _ hj hcj), fun i u hu => ?_⟩
    have hc := H3.cells (g := g) rfl (j * d.sz + i) u (flat_at d.sz css hsz j _ hcj i u hu)
    have e : (⟨g, 0, none⟩ : Addr).add (j * d.sz + i) = ⟨g, 0 + (j * d.sz + i), none⟩ := by unfold Addr.add; split <;> simp_all
    rw [e] at hc
    exact hc
theorem Kd.chg {α : Type} (d : Kd α) {S : Nat → Prop} {a b : World} {ok : Nat → Prop} {x : α} {cs : List Value} (h : d.K a ok x cs) (hc : Chg S a b) (hs : ∀ k, ok k → ¬ S k) : d.K b ok x cs :=
  d.mono (fun _ h => h.1) (d.move (fun k hk hl => hc.block k hl (hs k hk)) h)
theorem own_chg {E : TypeId} {base size n : Nat} {S : Nat → Prop} {v : Value} {xs : List Value} {a b : World} (h : a.ownsRow base E size v n xs) (hc : Chg S a b) (hs : ∀ k, v.ownBlock = some k → ¬ S k) : b.ownsRow base E size v n xs := by
  obtain ⟨h1, h2⟩ := h
  refine ⟨h1, ?_⟩
  rcases h2 with ⟨rfl, h0⟩ | ⟨g, cap, cur, rfl, hb, hg, r⟩
  · exact .inl ⟨rfl, h0⟩
  · exact .inr ⟨g, cap, cur, rfl, hb, hc.heap hg (hs g rfl), r⟩
theorem OwnD.chg {α : Type} {d : Kd α} {E : TypeId} {base : Nat} {ok S : Nat → Prop} {v : Value} {xs : List α} {a b : World} (h : OwnD d E base ok v xs a) (hc : Chg S a b) (ho : ∀ k, ok k → ¬ S k) (hs : ∀ k, v.ownBlock = some k → ¬ S k) : OwnD d E base ok v xs b := by
  obtain ⟨css, h1, h2, h3, h4⟩ := h
  exact ⟨css, h1, fun j x cs hx hj => d.chg (h2 j x cs hx hj) hc ho, own_chg h3 hc hs, h4⟩
theorem OwnD.mono {α : Type} {d : Kd α} {E : TypeId} {base : Nat} {ok ok' : Nat → Prop} {v : Value} {xs : List α} {w : World} (h : OwnD d E base ok v xs w) (ho : ∀ k, ok k → ok' k) (hv : ∀ k, v.ownBlock = some k → ¬ ok' k) : OwnD d E base ok' v xs w := by
  obtain ⟨css, h1, h2, h3, h4⟩ := h
  exact ⟨css, h1, fun j x cs hx hj => d.mono ho (h2 j x cs hx hj), h3, hv⟩
/-- One more, behind an append. 'a': ahead of the element's box; 'b': behind it; 'c': behind the append. -/
theorem OwnD.snoc {α : Type} {d : Kd α} {E : TypeId} {base : Nat} {ok : Nat → Prop} {v v' : Value} {xs : List α} {x : α} {css : List (List Value)} {cs : List Value} {b c : World}
    (h1 : css.length = xs.length) (h2 : ∀ (j : Nat) (x : α) (cs : List Value), xs[j]? = some x → css[j]? = some cs → d.K b ok x cs) (h4 : ∀ k, v.ownBlock = some k → ¬ ok k)
    (hx : d.K b ok x cs) (hg : b.grownBy c v.ownBlock) (ho : c.ownsRow base E d.sz v' (xs.length + 1) (css.flatten ++ cs)) (hat : v'.ownBlock = v.ownBlock ∨ v'.ownBlock = some b.heap.size) (hok : ∀ k, ok k → k < b.heap.size) :
    OwnD d E base ok v' (xs ++ [x]) c := by
  have hc := chg_of_grown hg
  have hk : ∀ k, ok k → ¬ v.ownBlock = some k := fun k hk e => h4 k e hk
  refine ⟨css ++ [cs], by simp [h1], fun j y ds hy hj => ?_, by rw [List.flatten_append, List.flatten_singleton, List.length_append]; exact ho, fun k hv hk' => ?_⟩
  · rcases Nat.lt_or_ge j xs.length with hlt | hge
    · rw [List.getElem?_append_left hlt] at hy
      rw [List.getElem?_append_left (by omega)] at hj
      exact d.chg (h2 j y ds hy hj) hc hk
    · rw [List.getElem?_append_right hge] at hy
      rw [List.getElem?_append_right (by omega)] at hj
      have hj0 : j - xs.length = 0 := by have := (List.getElem?_eq_some_iff.1 hy).1; simp at this; omega
      rw [hj0] at hy
      rw [h1, hj0] at hj
      simp at hy hj
      subst hy hj
      exact d.chg hx hc hk
  · rcases hat with e | e
    · exact h4 k (e ▸ hv) hk'
    · rw [e] at hv; injection hv with hv; have := hok k hk'; omega
/-- A row of numbers of the call's own, as data. -/
theorem OwnI.done {base B : Nat} {v : Value} {xs : List Int} {w : World} (h : OwnI base v xs w) (hl : xs.length ≤ 140737488355328) (hB : B ≤ base) : Sl (Kd.int .i64) w (fun k => B ≤ k ∧ k < w.heap.size) v xs := by
  have hs := (h.sl hl).move (w1 := w) (by decide) fun _ _ _ => rfl
  exact hs.mono fun k ⟨h1, h2⟩ => ⟨Nat.le_trans hB h1, h2⟩

/-- What the parser has told so far: its three rows, of blocks between its own and B; 'ok': the blocks of what is finished. -/
structure PSt (g B : Nat) (w : World) (x : Ins) (dv hv sv : Value) (ok : Nat → Prop) : Prop where
  D : OwnD kRow 32 (g + 1) ok dv x.doms w
  H : OwnD kCon 34 (g + 1) ok hv x.hard w
  S : OwnD kSft 37 (g + 1) ok sv x.soft w
  okg : ∀ k, ok k → g < k ∧ k < B
  bD : ∀ k, dv.ownBlock = some k → k < B
  bH : ∀ k, hv.ownBlock = some k → k < B
  bS : ∀ k, sv.ownBlock = some k → k < B
theorem PSt.chg {g B : Nat} {a b : World} {x : Ins} {dv hv sv : Value} {ok S : Nat → Prop} (h : PSt g B a x dv hv sv ok) (hc : Chg S a b) (hs : ∀ k, S k → k ≤ g ∨ B ≤ k) : PSt g B b x dv hv sv ok := by
  have ho : ∀ k, ok k → ¬ S k := fun k hk hsk => by have := h.okg k hk; have := hs k hsk; omega
  exact ⟨h.D.chg hc ho fun k hk hsk => by have := h.D.own k hk; have := h.bD k hk; have := hs k hsk; omega, h.H.chg hc ho fun k hk hsk => by have := h.H.own k hk; have := h.bH k hk; have := hs k hsk; omega,
    h.S.chg hc ho fun k hk hsk => by have := h.S.own k hk; have := h.bS k hk; have := hs k hsk; omega, h.okg, h.bD, h.bH, h.bS⟩
theorem PSt.later {g B B' : Nat} {w : World} {x : Ins} {dv hv sv : Value} {ok : Nat → Prop} (h : PSt g B w x dv hv sv ok) (hB : B ≤ B') : PSt g B' w x dv hv sv ok :=
  ⟨h.D, h.H, h.S, fun k hk => ⟨(h.okg k hk).1, Nat.lt_of_lt_of_le (h.okg k hk).2 hB⟩, fun k hk => Nat.lt_of_lt_of_le (h.bD k hk) hB, fun k hk => Nat.lt_of_lt_of_le (h.bH k hk) hB, fun k hk => Nat.lt_of_lt_of_le (h.bS k hk) hB⟩
/-- All blocks between B and B' are finished, too. -/
theorem PSt.fill {g B B' : Nat} {w : World} {x : Ins} {dv hv sv : Value} {ok : Nat → Prop} (h : PSt g B w x dv hv sv ok) (hB : B ≤ B') (hg : g < B) : PSt g B' w x dv hv sv (fun k => ok k ∨ (B ≤ k ∧ k < B')) :=
  ⟨h.D.mono (fun _ h => .inl h) fun k hk hn => by have h1 := (h.D.own k hk).2.2; have h2 := h.bD k hk; rcases hn with hn | hn; exact h1 hn; omega,
    h.H.mono (fun _ h => .inl h) fun k hk hn => by have h1 := (h.H.own k hk).2.2; have h2 := h.bH k hk; rcases hn with hn | hn; exact h1 hn; omega,
    h.S.mono (fun _ h => .inl h) fun k hk hn => by have h1 := (h.S.own k hk).2.2; have h2 := h.bS k hk; rcases hn with hn | hn; exact h1 hn; omega,
    fun k hk => by rcases hk with hk | hk; have := h.okg k hk; omega; omega,
    fun k hk => Nat.lt_of_lt_of_le (h.bD k hk) hB, fun k hk => Nat.lt_of_lt_of_le (h.bH k hk) hB, fun k hk => Nat.lt_of_lt_of_le (h.bS k hk) hB⟩
theorem own_apart {w : World} {b1 b2 : Nat} {e1 e2 : TypeId} {s1 s2 n1 n2 : Nat} {v1 v2 : Value} {x1 x2 : List Value} (h1 : w.ownsRow b1 e1 s1 v1 n1 x1) (h2 : w.ownsRow b2 e2 s2 v2 n2 x2) (hne : e1 ≠ e2) : ∀ k, v1.ownBlock = some k → v2.ownBlock ≠ some k := by
  intro k hk1 hk2
  rcases h1.2 with ⟨rfl, _⟩ | ⟨g, cap, cur, rfl, _, hg, _⟩
  · simp [Value.ownBlock] at hk1
  · rcases h2.2 with ⟨rfl, _⟩ | ⟨g', cap', cur', rfl, _, hg', _⟩
    · simp [Value.ownBlock] at hk2
    · simp [Value.ownBlock] at hk1 hk2
      subst hk1 hk2
      rw [hg] at hg'
      injection hg' with e
      injection e with _ e
      exact hne e
theorem OwnD.apart {α β : Type} {d1 : Kd α} {d2 : Kd β} {E1 E2 : TypeId} {b1 b2 : Nat} {ok1 ok2 : Nat → Prop} {v1 v2 : Value} {x1 : List α} {x2 : List β} {w : World} (h1 : OwnD d1 E1 b1 ok1 v1 x1 w) (h2 : OwnD d2 E2 b2 ok2 v2 x2 w) (hne : E1 ≠ E2) : ∀ k, v1.ownBlock = some k → v2.ownBlock ≠ some k := by
  obtain ⟨_, _, _, h1, _⟩ := h1
  obtain ⟨_, _, _, h2, _⟩ := h2
  exact own_apart h1 h2 hne
/-- The row's cells, and what they say. -/
def Cells {α : Type} (d : Kd α) (ok : Nat → Prop) (v : Value) (xs : List α) (w : World) (css : List (List Value)) : Prop :=
  css.length = xs.length ∧ (∀ (j : Nat) (x : α) (cs : List Value), xs[j]? = some x → css[j]? = some cs → d.K w ok x cs) ∧ (∀ k, v.ownBlock = some k → ¬ ok k)
theorem OwnD.open_ {α : Type} {d : Kd α} {E : TypeId} {base : Nat} {ok : Nat → Prop} {v : Value} {xs : List α} {w : World} (h : OwnD d E base ok v xs w) : ∃ css, Cells d ok v xs w css ∧ w.ownsRow base E d.sz v xs.length css.flatten := by
  obtain ⟨css, h1, h2, h3, h4⟩ := h
  exact ⟨css, ⟨h1, h2, h4⟩, h3⟩
theorem PSt.addD {g B : Nat} {b c : World} {x : Ins} {dv hv sv v' : Value} {ok : Nat → Prop} {css : List (List Value)} {d : List Int} {cs : List Value} (h : PSt g B b x dv hv sv ok) (hB : B ≤ b.heap.size) (hc : Cells kRow ok dv x.doms b css)
    (hx : kRow.K b ok d cs) (hg : b.grownBy c dv.ownBlock) (ho : c.ownsRow (g + 1) 32 1 v' (x.doms.length + 1) (css.flatten ++ cs)) (hat : v'.ownBlock = dv.ownBlock ∨ v'.ownBlock = some b.heap.size) :
    PSt g c.heap.size c { x with doms := x.doms ++ [d] } v' hv sv ok := by
  have hch := chg_of_grown hg
  have hBc : B ≤ c.heap.size := Nat.le_trans hB hg.size
  refine ⟨OwnD.snoc hc.1 hc.2.1 hc.2.2 hx hg ho hat (fun k hk => Nat.lt_of_lt_of_le (h.okg k hk).2 hB), h.H.chg hch (fun k hk e => hc.2.2 k e hk) (fun k hk e => h.D.apart h.H (by decide) k e hk), h.S.chg hch (fun k hk e => hc.2.2 k e hk) (fun k hk e => h.D.apart h.S (by decide) k e hk),
    fun k hk => ⟨(h.okg k hk).1, Nat.lt_of_lt_of_le (h.okg k hk).2 hBc⟩, fun k hk => (ho.lt k hk).2, fun k hk => Nat.lt_of_lt_of_le (h.bH k hk) hBc, fun k hk => Nat.lt_of_lt_of_le (h.bS k hk) hBc⟩
theorem PSt.addH {g B : Nat} {b c : World} {x : Ins} {dv hv sv v' : Value} {ok : Nat → Prop} {css : List (List Value)} {d : Con} {cs : List Value} (h : PSt g B b x dv hv sv ok) (hB : B ≤ b.heap.size) (hc : Cells kCon ok hv x.hard b css)
    (hx : kCon.K b ok d cs) (hg : b.grownBy c hv.ownBlock) (ho : c.ownsRow (g + 1) 34 4 v' (x.hard.length + 1) (css.flatten ++ cs)) (hat : v'.ownBlock = hv.ownBlock ∨ v'.ownBlock = some b.heap.size) :
    PSt g c.heap.size c { x with hard := x.hard ++ [d] } dv v' sv ok := by
  have hch := chg_of_grown hg
  have hBc : B ≤ c.heap.size := Nat.le_trans hB hg.size
  refine ⟨h.D.chg hch (fun k hk e => hc.2.2 k e hk) (fun k hk e => h.H.apart h.D (by decide) k e hk), OwnD.snoc hc.1 hc.2.1 hc.2.2 hx hg ho hat (fun k hk => Nat.lt_of_lt_of_le (h.okg k hk).2 hB), h.S.chg hch (fun k hk e => hc.2.2 k e hk) (fun k hk e => h.H.apart h.S (by decide) k e hk),
    fun k hk => ⟨(h.okg k hk).1, Nat.lt_of_lt_of_le (h.okg k hk).2 hBc⟩, fun k hk => Nat.lt_of_lt_of_le (h.bD k hk) hBc, fun k hk => (ho.lt k hk).2, fun k hk => Nat.lt_of_lt_of_le (h.bS k hk) hBc⟩
theorem PSt.addS {g B : Nat} {b c : World} {x : Ins} {dv hv sv v' : Value} {ok : Nat → Prop} {css : List (List Value)} {d : Sft} {cs : List Value} (h : PSt g B b x dv hv sv ok) (hB : B ≤ b.heap.size) (hc : Cells kSft ok sv x.soft b css)
    (hx : kSft.K b ok d cs) (hg : b.grownBy c sv.ownBlock) (ho : c.ownsRow (g + 1) 37 4 v' (x.soft.length + 1) (css.flatten ++ cs)) (hat : v'.ownBlock = sv.ownBlock ∨ v'.ownBlock = some b.heap.size) :
    PSt g c.heap.size c { x with soft := x.soft ++ [d] } dv hv v' ok := by
  have hch := chg_of_grown hg
  have hBc : B ≤ c.heap.size := Nat.le_trans hB hg.size
  refine ⟨h.D.chg hch (fun k hk e => hc.2.2 k e hk) (fun k hk e => h.S.apart h.D (by decide) k e hk), h.H.chg hch (fun k hk e => hc.2.2 k e hk) (fun k hk e => h.S.apart h.H (by decide) k e hk), OwnD.snoc hc.1 hc.2.1 hc.2.2 hx hg ho hat (fun k hk => Nat.lt_of_lt_of_le (h.okg k hk).2 hB),
    fun k hk => ⟨(h.okg k hk).1, Nat.lt_of_lt_of_le (h.okg k hk).2 hBc⟩, fun k hk => Nat.lt_of_lt_of_le (h.bD k hk) hBc, fun k hk => Nat.lt_of_lt_of_le (h.bH k hk) hBc, fun k hk => (ho.lt k hk).2⟩
/-- The parser: what is left, and what is told so far. -/
def PAll (g : Nat) (w : World) (ts : List Tok) (x : Ins) : Prop :=
  ∃ dv hv sv ok, PB g w ts dv hv sv ∧ PSt g w.heap.size w x dv hv sv ok ∧ Toks ts
theorem chg_setCell (W : World) (g i : Nat) (v : Value) : Chg (fun k => k = g) W (W.setCell ⟨g, i, none⟩ v) := (chg_of_grown (grown_setCell3 W g i v)).mono fun j _ hj => by injection hj with hj; exact hj.symm
theorem Chg.alloc0 (W : World) (o : Obj) (S : Nat → Prop) : Chg S W (W.alloc o) := chg_of_below (below_alloc1 W o) S
/-- A row of the parser's own block stored anew. -/
theorem PB.setD {g : Nat} {w : World} {ts : List Tok} {dv hv sv : Value} (h : PB g w ts dv hv sv) (v' : Value) : PB g (w.setCell ⟨g, 1, none⟩ v') ts v' hv sv := by
  obtain ⟨A, n, c, h, hs⟩ := h
  exact ⟨A, n, c, by simp [World.setCell, Array.getElem?_modify, h], hs.chg (by decide) (chg_setCell w g 1 v') (fun k hk e => by have : k < g := hk; omega)⟩
theorem PB.setH {g : Nat} {w : World} {ts : List Tok} {dv hv sv : Value} (h : PB g w ts dv hv sv) (v' : Value) : PB g (w.setCell ⟨g, 2, none⟩ v') ts dv v' sv := by
  obtain ⟨A, n, c, h, hs⟩ := h
  exact ⟨A, n, c, by simp [World.setCell, Array.getElem?_modify, h], hs.chg (by decide) (chg_setCell w g 2 v') (fun k hk e => by have : k < g := hk; omega)⟩
theorem PB.setS {g : Nat} {w : World} {ts : List Tok} {dv hv sv : Value} (h : PB g w ts dv hv sv) (v' : Value) : PB g (w.setCell ⟨g, 3, none⟩ v') ts dv hv v' := by
  obtain ⟨A, n, c, h, hs⟩ := h
  exact ⟨A, n, c, by simp [World.setCell, Array.getElem?_modify, h], hs.chg (by decide) (chg_setCell w g 3 v') (fun k hk e => by have : k < g := hk; omega)⟩
theorem hat_of {v : Value} {g H m cap : Nat} {b : World} (h : v.ownBlock = some g ∨ g = H) (hH : b.heap.size = H) : (Value.slice (some ⟨g, 0, none⟩) m cap).ownBlock = v.ownBlock ∨ (Value.slice (some ⟨g, 0, none⟩) m cap).ownBlock = some b.heap.size := by
  rcases h with h | h
  · exact .inl h.symm
  · exact .inr (by rw [hH, h]; rfl)
theorem PSt.cell {g B : Nat} {w : World} {x : Ins} {dv hv sv : Value} {ok : Nat → Prop} (h : PSt g B w x dv hv sv ok) (i : Nat) (v : Value) (_ : g < B) : PSt g (w.setCell ⟨g, i, none⟩ v).heap.size (w.setCell ⟨g, i, none⟩ v) x dv hv sv ok ∨ w.heap.size < B := by
  rcases Nat.lt_or_ge w.heap.size B with h1 | h1
  · exact .inr h1
  · exact .inl ((h.chg (chg_setCell w g i v) (fun k hk => by omega)).later (by rw [Go.Deep.nblk_setCell]; exact h1))
end Go.Proofs.YtgpgmmkkmoecmaaGreatDoor

/- inst.parser: domain. -/
namespace Go.Proofs.YtgpgmmkkmoecmaaGreatDoor
open Go.RowKit
attribute [local irreducible] wpStill

theorem domQ_num {t : Tok} {r : List Tok} {d : List Int} {e : Int × Int} (h0 : d.length = 0 ∨ t.kind = 2) (h : numberQ 1000000 (t :: r) = .error e) : domQ (t :: r) d = .error e := by
  rw [domQ, if_neg (by omega), h]
theorem domQ_go {t : Tok} {r : List Tok} {d : List Int} {p : Tok × List Tok} (h0 : d.length = 0 ∨ t.kind = 2) (h : numberQ 1000000 (t :: r) = .ok p) :
    domQ (t :: r) d = if 16 ≤ d.length then .error (t.at_, 7) else if d.length ≠ 0 ∧ t.n ≤ lastI d then .error (t.at_, 6) else domQ r (d ++ [t.n]) := by
  rw [domQ, if_neg (by omega), h]
def DomRel (g : Nat) (w : World) (dv hv sv : Value) (ts : List Tok) (k : Nat) (v : Value) (wr : World) : Prop :=
  ∃ t r d, k = (t :: r).length ∧ domQ ts [] = domQ (t :: r) d ∧ OwnI w.heap.size v d wr ∧ d.length ≤ 16 ∧ PB g wr (t :: r) dv hv sv ∧ Toks (t :: r) ∧ Chg (fun k => k = g) w wr
def DomOut (g : Nat) (w' : World) (x : Ins) (e : Ending) (d : List Int) (r : List Tok) : Prop := e = .returned (.tuple #[]) ∧ PAll g w' r { x with doms := x.doms ++ [d] }

theorem cells_info {P : Program} {t : TypeId} {z : Value} {s b : Nat} (h : (P.info? t).map (fun i => (i.zero, i.size, i.bytes)) = some (some z, s, b)) : ∃ i, P.info? t = some i ∧ i.zero = some z ∧ i.size = s ∧ i.bytes = b := info_parts h
set_option maxRecDepth 100000 in
set_option maxHeartbeats 1000000 in
theorem domain_p (g : Nat) (w : World) (ts : List Tok) (x : Ins) (h : PAll g w ts x) (hx : x.doms.length ≤ 40) :
    Calls Tryz.prog 68 #[.pointer (some ⟨g, 0, none⟩)] w fun e w' => Out (domQ ts []) (DomOut g w' x e) e ∧ Below g w w' := by
  obtain ⟨dv, hv, sv, ok, h, hst, hT⟩ := h
  have hgw := h.lt
  obtain ⟨t, r, rfl⟩ := hT.cons
  have H := Lib.hid h
  have HT := Lib.hid hT
  have HS := Lib.hid hst
  clear h hT hst
  go_enter Tryz.func68, Tryz.ntmps68
  go_wp2
  go_loopg [2] (t :: r).length (fun k v wr => DomRel g w dv hv sv (t :: r) k v wr)
  case atStart => exact ⟨t, r, [], rfl, rfl, World.ownsRow_nil _ _ _ _, by simp, H.out, HT.out, Chg.refl _ _⟩
  case round =>
    clear H HT
    obtain ⟨t2, r2, l, hk, hq, hl, hle, hp, hT, hch⟩ := hrel
    subst hk
    have hlS := hl.sl (by omega)
    obtain ⟨A, c, rfl, hc, hm, _⟩ := hlS
    have HQ := Lib.hid hq
    have HL := Lib.hid hl
    have HP := Lib.hid hp
    have HT := Lib.hid hT
    have HG := Lib.hid hch
    have hbs := hch.size
    have hn := Lib.hid (number_p g wr t2 r2 _ _ _ 1000000 (by decide) (by decide) hp)
    have hmc := Lib.hid (more_any g wr t2 r2 _ _ _ hp)
    clear hq hl hp hT hch
    by_cases hout : ¬ l.length = 0 ∧ ¬ t2.kind = 2
    · obtain ⟨h0, h2⟩ := hout
      have hb0 : ((l.length : Int) == 0) = false := beq_eq_false_iff_ne.2 (by omega)
      have hb2 : (t2.kind == 2) = false := beq_eq_false_iff_ne.2 h2
      have HR : Hid (domQ (t :: r) [] = .ok (l, t2 :: r2)) := Lib.hid (by rw [HQ.out, domQ, if_pos ⟨h0, h2⟩])
      have HS1 := Lib.hid (((HS.out.chg HG.out (fun k hk => by omega)).fill hbs hgw).chg (Chg.alloc0 wr (.cells #[.slice A l.length c] 32) (fun _ => False)) (fun _ h => h.elim))
      have HP2 := Lib.hid (HP.out.alloc (.cells #[.slice A l.length c] 32))
      have HG2 := Lib.hid (((HG.out.alloc (.cells #[.slice A l.length c] 32)).mono (fun j _ hj => (Or.inl hj : j = g ∨ g + 1 ≤ j))))
      have hD := HS1.out.D
      obtain ⟨DA, Dc, rfl, _, _, _⟩ := hD.sl (by omega)
      obtain ⟨css, hc1, hc2⟩ := hD.open_
      have HC1 := Lib.hid hc1
      have HC2 := Lib.hid hc2
      have HS2 := HS1
      have HX : Hid (kRow.K (wr.alloc (.cells #[.slice A l.length c] 32)) (fun k => ok k ∨ (w.heap.size ≤ k ∧ k < wr.heap.size)) l [.slice A l.length c]) := Lib.hid ⟨_, rfl, ((HL.out.done (by omega) (Nat.le_refl _)).below (by decide) (below_alloc1 _ _)).mono fun k h => Or.inr h⟩
      obtain ⟨A2, n2, c2, hb2', _⟩ := HP.out
      have g1 := cell_at hb2' (i := 1) rfl
      clear hb2' hc1 hc2 HS1 hD
      clear HP HL HG HS
      have hlen : x.doms.length ≤ 140737488355328 := by omega
      obtain ⟨iR, hiR, hz0, hz1, hz2⟩ := info_parts (show (Tryz.prog.info? 32).map (fun i => (i.zero, i.size, i.bytes)) = some (some (.slice none 0 0), 1, 24) by kernel_rfl)
      go_wp2_with (first
        | (go_at_call 99; refine hmc.out.mono ?_; rintro e w' ⟨rfl, hw⟩; obtain rfl := hw.symm)
        | (at_builtin; refine wpList_append_lies _ rfl _ _ 26 rfl (g + 1) 32 iR _ 1 24 Tryz.underlying26 hiR hz0 hz1 hz2 rfl (by decide) _ x.doms.length css.flatten rfl HC2.out ⟨_, 0, none⟩ 1 1 [.slice A l.length c] rfl rfl (World.news_of_block (cs := #[.slice A l.length c]) (t := 32) (fr := (0, 0)) (heap_alloc_new wr _)) (by simp [Value.oneCell']) (by decide) (by unfold maxLen; omega) (by omega) (by simp; omega) (wr.heap.size + 1) (by simp) ?_))
      intro kb cap w2 hown' hgrow hat hlt
      have HS3 := Lib.hid (HS2.out.addD (by simp) HC1.out HX.out hgrow hown' (hat_of hat (by simp)))
      have HP3 := Lib.hid (HP2.out.grown hgrow (fun k hk => by have := (HC2.out.lt k hk).1; omega))
      have HG3 := Lib.hid (HG2.out.trans (chg_of_grown hgrow) (fun j hj hs => by have := (HC2.out.lt j hs).1; exact Or.inr this))
      clear hown' hgrow hat
      obtain ⟨A3, n3, c3, hb3, _⟩ := HP3.out
      have g3 := cell_at hb3 (i := 1) rfl
      have f3 := Lib.frozen_of_heap hb3 1
      clear hb3
      go_wp2
      go_end0
      rw [HR.out]
      refine ⟨⟨rfl, _, hv, sv, _, HP3.out.setD _, (HS3.out.chg (chg_setCell w2 g 1 _) (fun k hk => by omega)).later (by rw [Go.Deep.nblk_setCell]; exact Nat.le_refl _), HT.out⟩, ?_⟩
      exact (HG3.out.trans (chg_setCell w2 g 1 _) (fun j _ hs => Or.inl hs)).below (fun k hk e => by omega) (by omega)
    · have hway : l.length = 0 ∨ (0 < l.length ∧ t2.kind = 2) := by omega
      have hway2 : l.length = 0 ∨ t2.kind = 2 := by omega
      clear hout
      by_cases hk : (t2.kind == 2) = true
      · by_cases hsm : smallB t2.n 1000000 = true
        · have hgo := domQ_go (t := t2) (r := r2) (d := l) (p := (t2, r2)) hway2 (by simp [numberQ, hk, hsm])
          have hT4 := HT.out.tail (fun h => by simp [h] at hk)
          clear HT
          simp only [hk, hsm, if_true] at hn
          have hT : Hid (tokC t2 = [.int .i64 t2.kind, .string ⟨t2.text.toArray⟩, .int .i64 t2.n, .int .i64 t2.at_]) := Lib.hid rfl
          generalize (ByteArray.mk t2.text.toArray) = tb at hT
          have hk2 : t2.kind = 2 := by simpa using hk
          have HK2 := Lib.hid hk2
          clear hsm hk2
          by_cases h16 : 16 ≤ l.length
          · have HR : Hid (domQ (t :: r) [] = .error (t2.at_, 7)) := Lib.hid (by rw [HQ.out, hgo, if_pos h16])
            have hb0 : ((l.length : Int) == 0) = false := beq_eq_false_iff_ne.2 (by omega)
            clear hgo
            go_wp2_with (first
              | (go_at_call 99; refine hmc.out.mono ?_; rintro e w' ⟨rfl, hw⟩; obtain rfl := hw.symm)
              | (go_at_call 100; refine hn.out.mono ?_; rintro e W2 ⟨⟨rfl, hp2⟩, hg2⟩; (have HG2 := Lib.hid (HG.out.trans (chg_g hg2 (fun k => k = g) rfl) (fun _ _ h => h))); clear hp2 hg2; rw [hT.out]))
            refine (must_no _ _ _ _ _ _ _ (by simp; omega)).mono ?_
            rintro e W3 ⟨rfl, hb3⟩
            refine ⟨rfl, ?_⟩
            rw [HR.out]
            exact ⟨rfl, ((HG2.out.alloc _).thenBelow hb3).below (fun k hk e => by omega) (by omega)⟩
          · rw [if_neg h16] at hgo
            obtain ⟨t3, r3, rfl⟩ := hT4.cons
            have HT := Lib.hid hT4
            clear hT4
            have hR := HQ.out.trans hgo
            obtain ⟨i0, hi, hz0, hz1, hz2⟩ := info_parts (show (Tryz.prog.info? 3).map (fun i => (i.zero, i.size, i.bytes)) = some (some (.int .i64 0), 1, 8) by kernel_rfl)
            by_cases h0 : l.length = 0
            · obtain rfl : l = [] := List.eq_nil_of_length_eq_zero h0
              have HR : Hid (domQ (t :: r) [] = domQ (t3 :: r3) ([] ++ [t2.n])) := Lib.hid (by rw [hR, if_neg (by simp)])
              clear hR hgo h0 hway hway2 hk
              go_wp2_with (first
                | (go_at_call 99; refine hmc.out.mono ?_; rintro e w' ⟨rfl, hw⟩; obtain rfl := hw.symm)
                | (go_at_call 100; refine hn.out.mono ?_; rintro e W2 ⟨⟨rfl, hp2⟩, hg2⟩; (have HG2 := Lib.hid ((HG.out.trans (chg_g hg2 (fun k => k = g) rfl) (fun _ _ h => h)).alloc (.cells #[.int .i64 t2.kind, .string tb, .int .i64 t2.n, .int .i64 t2.at_] 82))); (have HP2 := Lib.hid (hp2.alloc (.cells #[.int .i64 t2.kind, .string tb, .int .i64 t2.n, .int .i64 t2.at_] 82))); (have HL2 := Lib.hid ((HL.out.chg (chg_of_grown hg2) (fun k hk e => by injection e with e; have := (HL.out.lt k hk).1; omega)).chg (Chg.alloc0 W2 (.cells #[.int .i64 t2.kind, .string tb, .int .i64 t2.n, .int .i64 t2.at_] 82) (fun _ => False)) (fun _ _ h => h.elim))); clear hp2 hg2; rw [hT.out]))
              refine (must_yes _ _ _ _ _ _ _ (by (try simp); try omega)).mono ?_
              rintro e W3 ⟨rfl, hb3⟩
              have HX3 := Lib.hid (block_kept hb3 (heap_alloc_new W2 _))
              have HG3 := Lib.hid (HG2.out.thenBelow hb3).drew
              have HP3 := Lib.hid (HP2.out.grown (below_grown0 hb3 none) (by simp)).drew
              have HL3 := Lib.hid (HL2.out.chg (chg_of_below (hb3.trans (Below.drew (Below.refl _ _))) (fun _ => False)) (fun _ _ h => h.elim))
              clear hb3 HG2 HP2 HL2 hn
              go_wp2_with fail
              refine wp_region_still_tail 15 (by kernel_rfl) (by kernel_rfl) ?_
              change wpStill _ _ (World.drew W3) (fun a' => wpList _ _ _ _ a' (World.drew W3)) _ _
              have HX4 : Hid ((World.drew W3).heap[W2.heap.size]? = _) := HX3
              generalize World.drew W3 = W at *
              generalize W2.heap.size = k2 at *
              clear HX3
              have d0 := cell_at HX4.out (i := 0) rfl
              have d1 := cell_at HX4.out (i := 1) rfl
              have d2 := cell_at HX4.out (i := 2) rfl
              have d3 := cell_at HX4.out (i := 3) rfl
              simp only [List.take_succ_cons, List.take_zero, List.drop_succ_cons, List.drop_zero]
              repeat (first | (refine still_plain rfl (fun K hK => ?_); go_simp; refine hK _ ?_; clear hK K) | (refine still_off _ _ _ _ _ rfl rfl rfl rfl rfl (fun K hK => ?_); go_simp; refine hK _ ?_; clear hK K) | (refine still_on _ _ _ _ rfl rfl rfl rfl (fun K hK => ?_); go_simp; refine hK _ ?_; clear hK K) | (refine still_dead _ _ _ _ rfl rfl rfl rfl (fun K hK => ?_); go_simp; refine hK _ ?_; clear hK K))
              refine wpStill_nil ?_
              go_wp2_with (first
                | (go_at_call 67; refine (must_ok _ _ _ _ _ _).mono ?_; rintro e W5 ⟨rfl, hb5⟩; (have HX5 := Lib.hid (block_kept hb5 HX4.out)); (have HG5 := Lib.hid (HG3.out.thenBelow hb5)); (have HP5 := Lib.hid (HP3.out.grown (below_grown0 hb5 none) (by simp))); (have HL5 := Lib.hid (HL3.out.chg (chg_of_below hb5 (fun _ => False)) (fun _ _ h => h.elim))); (have e2 := cell_at HX5.out (i := 2) rfl); clear hb5 d0 d1 d2 d3 HX4 HG3 HP3 HL3)
                | (at_builtin; refine wpList_append_own_at _ rfl _ _ 32 rfl w.heap.size 3 i0 _ 1 8 Tryz.underlying32 hi hz0 hz1 hz2 rfl (by decide) _ ([] : List Int).length (([] : List Int).map (Value.int .i64)) rfl (HL5.out.alloc _) ⟨_, 0, none⟩ 1 1 [.int .i64 t2.n] rfl rfl ?c1 ?c2 ?c3 ?c4 ?c5 ?_))
              case c1 => exact World.news_of_block (cs := #[.int .i64 t2.n]) (t := 3) (fr := (0, 0)) (heap_alloc_new W5 _)
              case c2 => simp [Value.oneCell']
              case c3 => (try simp only [maxLen]); (try simp); try omega
              case c4 => (try simp); try omega
              case c5 => have := HG5.out.size; simp; omega
              intro v' w2 hown' hgrow _ hat
              have HO2 := Lib.hid hown'
              have HG2 := Lib.hid hgrow
              clear hown' hgrow hat
              go_wp2
              go_roundg (t3 :: r3).length
              case rel => exact ⟨t3, r3, ([] : List Int) ++ [t2.n], rfl, HR.out, by have := HO2.out; unfold OwnI; simpa using this, by (try simp); try omega, (HP5.out.alloc _).grown HG2.out (fun k hk => by have := (HL5.out.lt k hk).1; omega), HT.out, (HG5.out.alloc _).trans (chg_of_grown HG2.out) (fun j hj hs => by have := (HL5.out.lt j hs).1; omega)⟩
              case measure => simp
            · have hb0 : ((l.length : Int) == 0) = false := beq_eq_false_iff_ne.2 (by omega)
              have h3p : 0 < l.length := by omega
              have w1 : IntKind.i64.wrap ((l.length : Int) - 1) = (l.length : Int) - 1 := IntWalk.i64_in _ (by omega)
              have w2 : ((l.length : Int) - 1).toNat = l.length - 1 := by omega
              have w3 : (0 : Int) ≤ (l.length : Int) - 1 := by omega
              have w5 : (1 : Int) ≤ (l.length : Int) := by omega
              have w4 : (l.length : Int) - 1 < (l.length : Int) := by omega
              by_cases h4 : lastI l < t2.n
              · have HR : Hid (domQ (t :: r) [] = domQ (t3 :: r3) (l ++ [t2.n])) := Lib.hid (by rw [hR, if_neg (by omega)])
                clear hR hgo hway hway2 h0
                go_wp2_with (first
                  | (go_at_call 99; refine hmc.out.mono ?_; rintro e w' ⟨rfl, hw⟩; obtain rfl := hw.symm)
                  | (go_at_call 100; refine hn.out.mono ?_; rintro e W2 ⟨⟨rfl, hp2⟩, hg2⟩; (have HG2 := Lib.hid ((HG.out.trans (chg_g hg2 (fun k => k = g) rfl) (fun _ _ h => h)).alloc (.cells #[.int .i64 t2.kind, .string tb, .int .i64 t2.n, .int .i64 t2.at_] 82))); (have HP2 := Lib.hid (hp2.alloc (.cells #[.int .i64 t2.kind, .string tb, .int .i64 t2.n, .int .i64 t2.at_] 82))); (have HL2 := Lib.hid ((HL.out.chg (chg_of_grown hg2) (fun k hk e => by injection e with e; have := (HL.out.lt k hk).1; omega)).chg (Chg.alloc0 W2 (.cells #[.int .i64 t2.kind, .string tb, .int .i64 t2.n, .int .i64 t2.at_] 82) (fun _ => False)) (fun _ _ h => h.elim))); clear hp2 hg2; rw [hT.out]))
                refine (must_yes _ _ _ _ _ _ _ (by (try simp); try omega)).mono ?_
                rintro e W3 ⟨rfl, hb3⟩
                have HX3 := Lib.hid (block_kept hb3 (heap_alloc_new W2 _))
                have HG3 := Lib.hid (HG2.out.thenBelow hb3).drew
                have HP3 := Lib.hid (HP2.out.grown (below_grown0 hb3 none) (by simp)).drew
                have HL3 := Lib.hid (HL2.out.chg (chg_of_below (hb3.trans (Below.drew (Below.refl _ _))) (fun _ => False)) (fun _ _ h => h.elim))
                clear hb3 HG2 HP2 HL2 hn
                go_wp2_with fail
                refine wp_region_still_tail 15 (by kernel_rfl) (by kernel_rfl) ?_
                change wpStill _ _ (World.drew W3) (fun a' => wpList _ _ _ _ a' (World.drew W3)) _ _
                have HX4 : Hid ((World.drew W3).heap[W2.heap.size]? = _) := HX3
                generalize World.drew W3 = W at *
                generalize W2.heap.size = k2 at *
                clear HX3
                have d0 := cell_at HX4.out (i := 0) rfl
                have d1 := cell_at HX4.out (i := 1) rfl
                have d2 := cell_at HX4.out (i := 2) rfl
                have d3 := cell_at HX4.out (i := 3) rfl
                simp only [List.take_succ_cons, List.take_zero, List.drop_succ_cons, List.drop_zero]
                obtain ⟨b, rfl, hb, hbc⟩ := OwnI.cell HL3.out (j := l.length - 1) (by omega)
                have hbc' : W.cell? ⟨b, l.length - 1, none⟩ = some (.int .i64 (lastI l)) := hbc
                clear hbc
                repeat (first | (refine still_plain rfl (fun K hK => ?_); go_simp; refine hK _ ?_; clear hK K) | (refine still_off _ _ _ _ _ rfl rfl rfl rfl rfl (fun K hK => ?_); go_simp; refine hK _ ?_; clear hK K) | (refine still_on _ _ _ _ rfl rfl rfl rfl (fun K hK => ?_); go_simp; refine hK _ ?_; clear hK K) | (refine still_dead _ _ _ _ rfl rfl rfl rfl (fun K hK => ?_); go_simp; refine hK _ ?_; clear hK K))
                refine wpStill_nil ?_
                go_wp2_with (first
                  | (go_at_call 67; refine (must_ok _ _ _ _ _ _).mono ?_; rintro e W5 ⟨rfl, hb5⟩; (have HX5 := Lib.hid (block_kept hb5 HX4.out)); (have HG5 := Lib.hid (HG3.out.thenBelow hb5)); (have HP5 := Lib.hid (HP3.out.grown (below_grown0 hb5 none) (by simp))); (have HL5 := Lib.hid (HL3.out.chg (chg_of_below hb5 (fun _ => False)) (fun _ _ h => h.elim))); (have e2 := cell_at HX5.out (i := 2) rfl); clear hb5 d0 d1 d2 d3 HX4 HG3 HP3 HL3)
                  | (at_builtin; refine wpList_append_own_at _ rfl _ _ 32 rfl w.heap.size 3 i0 _ 1 8 Tryz.underlying32 hi hz0 hz1 hz2 rfl (by decide) _ l.length (l.map (Value.int .i64)) rfl (HL5.out.alloc _) ⟨_, 0, none⟩ 1 1 [.int .i64 t2.n] rfl rfl ?c1 ?c2 ?c3 ?c4 ?c5 ?_))
                case c1 => exact World.news_of_block (cs := #[.int .i64 t2.n]) (t := 3) (fr := (0, 0)) (heap_alloc_new W5 _)
                case c2 => simp [Value.oneCell']
                case c3 => (try simp only [maxLen]); (try simp); try omega
                case c4 => (try simp); try omega
                case c5 => have := HG5.out.size; simp; omega
                intro v' w2 hown' hgrow _ hat
                have HO2 := Lib.hid hown'
                have HG2 := Lib.hid hgrow
                clear hown' hgrow hat
                go_wp2
                go_roundg (t3 :: r3).length
                case rel => exact ⟨t3, r3, l ++ [t2.n], rfl, HR.out, by have := HO2.out; unfold OwnI; simpa using this, by (try simp); try omega, (HP5.out.alloc _).grown HG2.out (fun k hk => by have := (HL5.out.lt k hk).1; omega), HT.out, (HG5.out.alloc _).trans (chg_of_grown HG2.out) (fun j hj hs => by have := (HL5.out.lt j hs).1; omega)⟩
                case measure => simp
              · have HR : Hid (domQ (t :: r) [] = .error (t2.at_, 6)) := Lib.hid (by rw [hR, if_pos (by omega)])
                clear hR hgo hway hway2 h0
                go_wp2_with (first
                  | (go_at_call 99; refine hmc.out.mono ?_; rintro e w' ⟨rfl, hw⟩; obtain rfl := hw.symm)
                  | (go_at_call 100; refine hn.out.mono ?_; rintro e W2 ⟨⟨rfl, hp2⟩, hg2⟩; (have HG2 := Lib.hid ((HG.out.trans (chg_g hg2 (fun k => k = g) rfl) (fun _ _ h => h)).alloc (.cells #[.int .i64 t2.kind, .string tb, .int .i64 t2.n, .int .i64 t2.at_] 82))); (have HP2 := Lib.hid (hp2.alloc (.cells #[.int .i64 t2.kind, .string tb, .int .i64 t2.n, .int .i64 t2.at_] 82))); (have HL2 := Lib.hid ((HL.out.chg (chg_of_grown hg2) (fun k hk e => by injection e with e; have := (HL.out.lt k hk).1; omega)).chg (Chg.alloc0 W2 (.cells #[.int .i64 t2.kind, .string tb, .int .i64 t2.n, .int .i64 t2.at_] 82) (fun _ => False)) (fun _ _ h => h.elim))); clear hp2 hg2; rw [hT.out]))
                refine (must_yes _ _ _ _ _ _ _ (by (try simp); try omega)).mono ?_
                rintro e W3 ⟨rfl, hb3⟩
                have HX3 := Lib.hid (block_kept hb3 (heap_alloc_new W2 _))
                have HG3 := Lib.hid (HG2.out.thenBelow hb3).drew
                have HP3 := Lib.hid (HP2.out.grown (below_grown0 hb3 none) (by simp)).drew
                have HL3 := Lib.hid (HL2.out.chg (chg_of_below (hb3.trans (Below.drew (Below.refl _ _))) (fun _ => False)) (fun _ _ h => h.elim))
                clear hb3 HG2 HP2 HL2 hn
                go_wp2_with fail
                refine wp_region_still_tail 15 (by kernel_rfl) (by kernel_rfl) ?_
                change wpStill _ _ (World.drew W3) (fun a' => wpList _ _ _ _ a' (World.drew W3)) _ _
                have HX4 : Hid ((World.drew W3).heap[W2.heap.size]? = _) := HX3
                generalize World.drew W3 = W at *
                generalize W2.heap.size = k2 at *
                clear HX3
                have d0 := cell_at HX4.out (i := 0) rfl
                have d1 := cell_at HX4.out (i := 1) rfl
                have d2 := cell_at HX4.out (i := 2) rfl
                have d3 := cell_at HX4.out (i := 3) rfl
                simp only [List.take_succ_cons, List.take_zero, List.drop_succ_cons, List.drop_zero]
                obtain ⟨b, rfl, hb, hbc⟩ := OwnI.cell HL3.out (j := l.length - 1) (by omega)
                have hbc' : W.cell? ⟨b, l.length - 1, none⟩ = some (.int .i64 (lastI l)) := hbc
                clear hbc
                repeat (first | (refine still_plain rfl (fun K hK => ?_); go_simp; refine hK _ ?_; clear hK K) | (refine still_off _ _ _ _ _ rfl rfl rfl rfl rfl (fun K hK => ?_); go_simp; refine hK _ ?_; clear hK K) | (refine still_on _ _ _ _ rfl rfl rfl rfl (fun K hK => ?_); go_simp; refine hK _ ?_; clear hK K) | (refine still_dead _ _ _ _ rfl rfl rfl rfl (fun K hK => ?_); go_simp; refine hK _ ?_; clear hK K))
                refine wpStill_nil ?_
                go_wp2_with (go_at_call 67; refine (must_no _ _ _ _ _ _ _ (by (try simp); try omega)).mono ?_; rintro e W5 ⟨rfl, hb5⟩; refine ⟨rfl, ?_⟩; rw [HR.out]; exact ⟨rfl, (HG3.out.thenBelow hb5).below (fun k hk e => by omega) (by omega)⟩)
        · have hsm := Bool.eq_false_iff.2 hsm
          have HR : Hid (domQ (t :: r) [] = .error (t2.at_, 4)) := Lib.hid (by rw [HQ.out]; exact domQ_num hway2 (by simp [numberQ, hk, hsm]))
          simp only [hk, hsm, Bool.false_eq_true, if_false, if_true] at hn
          rcases hway with h0 | ⟨h0, h2⟩
          · have hb0 : ((l.length : Int) == 0) = true := beq_iff_eq.2 (by omega)
            clear h0 hsm
            go_wp2_with (first
              | (go_at_call 99; refine hmc.out.mono ?_; rintro e w' ⟨rfl, hw⟩; obtain rfl := hw.symm)
              | (go_at_call 100; refine hn.out.mono ?_; rintro e W2 ⟨rfl, hg2⟩; refine ⟨rfl, ?_⟩; rw [HR.out]; exact ⟨rfl, (HG.out.trans (chg_g hg2 (fun k => k = g) rfl) (fun _ _ h => h)).below (fun k hk e => by omega) (by omega)⟩))
          · have hb0 : ((l.length : Int) == 0) = false := beq_eq_false_iff_ne.2 (by omega)
            clear h2 hsm
            go_wp2_with (first
              | (go_at_call 99; refine hmc.out.mono ?_; rintro e w' ⟨rfl, hw⟩; obtain rfl := hw.symm)
              | (go_at_call 100; refine hn.out.mono ?_; rintro e W2 ⟨rfl, hg2⟩; refine ⟨rfl, ?_⟩; rw [HR.out]; exact ⟨rfl, (HG.out.trans (chg_g hg2 (fun k => k = g) rfl) (fun _ _ h => h)).below (fun k hk e => by omega) (by omega)⟩))
      · have hk := Bool.eq_false_iff.2 hk
        have h0 : l.length = 0 := by rcases hway with h | ⟨_, h⟩; exact h; simp [h] at hk
        have HR : Hid (domQ (t :: r) [] = .error (t2.at_, 3)) := Lib.hid (by rw [HQ.out]; exact domQ_num (.inl h0) (by simp [numberQ, hk]))
        simp only [hk, Bool.false_eq_true, if_false] at hn
        have hb0 : ((l.length : Int) == 0) = true := beq_iff_eq.2 (by omega)
        clear h0 hway hway2
        go_wp2_with (first
          | (go_at_call 99; refine hmc.out.mono ?_; rintro e w' ⟨rfl, hw⟩; obtain rfl := hw.symm)
          | (go_at_call 100; refine hn.out.mono ?_; rintro e W2 ⟨rfl, hg2⟩; refine ⟨rfl, ?_⟩; rw [HR.out]; exact ⟨rfl, (HG.out.trans (chg_g hg2 (fun k => k = g) rfl) (fun _ _ h => h)).below (fun k hk e => by omega) (by omega)⟩))
end Go.Proofs.YtgpgmmkkmoecmaaGreatDoor

/- inst.parser: row. -/
namespace Go.Proofs.YtgpgmmkkmoecmaaGreatDoor
open Go.RowKit
attribute [local irreducible] wpStill Calls
attribute [local go_sem ↓] Go.wp_at_zero Go.wp_at_succ

/-- What the first statement leaves: the token in a block, and a row of zeros. -/
def RowHead (w : World) (t : Tok) (n : Nat) (s7 s8 : Value) (wx : World) : Prop :=
  ∃ kt km, s7 = .pointer (some ⟨kt, 0, none⟩) ∧ s8 = .slice (some ⟨km, 0, none⟩) n n ∧ wx.heap[kt]? = some (.cells (tokC t).toArray 82 (0, 0)) ∧ wx.heap[km]? = some (.cells (madeCells #[.int .i64 0] n) 3 (0, 0)) ∧
    Below w.heap.size w wx ∧ w.heap.size ≤ kt ∧ w.heap.size ≤ km ∧ kt ≠ km

theorem row_head (w : World) (t : Tok) (n : Nat) {C : Array Value} (hC : (tokC t).toArray = C) :
    RowHead w t n (.pointer (some ⟨w.heap.size + 1, 0, none⟩)) (.slice (some ⟨w.heap.size, 0, none⟩) n n) (((w.alloc (.cells (madeCells #[.int .i64 0] n) 3)).alloc (.cells C 82)).drew) := by
  subst hC
  refine ⟨_, _, rfl, rfl, ?_, ?_, (((Below.refl _ _).alloc (Nat.le_refl _) _).alloc (by simp) _).drew, by omega, Nat.le_refl _, by omega⟩
  · have e : (w.alloc (.cells (madeCells #[.int .i64 0] n) 3)).heap.size = w.heap.size + 1 := by simp
    rw [← e]
    exact heap_alloc_new _ _
  · exact block_kept (below_alloc1 (w.alloc (.cells (madeCells #[.int .i64 0] n) 3)) (.cells (tokC t).toArray 82)) (heap_alloc_new w _)
theorem row_head' (w : World) (t : Tok) (n : Nat) {C : Array Value} (hC : (tokC t).toArray = C) :
    RowHead w t n (.pointer (some ⟨w.heap.size, 0, none⟩)) (.slice (some ⟨w.heap.size + 1, 0, none⟩) n n) (((w.alloc (.cells C 82)).alloc (.cells (madeCells #[.int .i64 0] n) 3)).drew) := by
  subst hC
  refine ⟨_, _, rfl, rfl, ?_, ?_, (((Below.refl _ _).alloc (Nat.le_refl _) _).alloc (by simp) _).drew, Nat.le_refl _, by omega, by omega⟩
  · exact block_kept (below_alloc1 (w.alloc (.cells (tokC t).toArray 82)) (.cells (madeCells #[.int .i64 0] n) 3)) (heap_alloc_new w _)
  · have e : (w.alloc (.cells (tokC t).toArray 82)).heap.size = w.heap.size + 1 := by simp
    rw [← e]
    exact heap_alloc_new _ _

/-- What was read ahead, and what comes. -/
def preV (ns : List Int) : PR (List Int) → PR (List Int)
  | .ok (ms, r) => .ok (ns ++ ms, r)
  | .error e => .error e
theorem preV_nil (x : PR (List Int)) : preV [] x = x := by cases x <;> rfl
theorem preV_preV (ns : List Int) (n : Int) (x : PR (List Int)) : preV ns (preV [n] x) = preV (ns ++ [n]) x := by cases x <;> simp [preV]
theorem valsQ_num {doms : List (List Int)} {v : Int} {ss : List Int} {ts : List Tok} {e : Int × Int} (h : numberQ 1000000 ts = .error e) : valsQ doms (v :: ss) ts = .error e := by rw [valsQ, h]
theorem valsQ_bad {doms : List (List Int)} {v : Int} {ss : List Int} {ts : List Tok} {t : Tok} {r : List Tok} (h : numberQ 1000000 ts = .ok (t, r)) (hn : ¬ t.n ∈ nth [] doms v.toNat) : valsQ doms (v :: ss) ts = .error (t.at_, 6) := by
  rw [valsQ, h]; simp only; rw [if_neg hn]
theorem valsQ_go {doms : List (List Int)} {v : Int} {ss : List Int} {ts : List Tok} {t : Tok} {r : List Tok} (h : numberQ 1000000 ts = .ok (t, r)) (hn : t.n ∈ nth [] doms v.toNat) : valsQ doms (v :: ss) ts = preV [t.n] (valsQ doms ss r) := by
  rw [valsQ, h]; simp only; rw [if_pos hn]
  cases valsQ doms ss r <;> rfl
/-- The row as far as it is read: its first numbers, then zeros. -/
def rowCells (ns : List Int) (n : Nat) : Array Value := (ns.map (Value.int .i64) ++ List.replicate (n - ns.length) (Value.int .i64 0)).toArray
theorem rowCells_nil (n : Nat) : madeCells #[.int .i64 0] n = rowCells [] n := by
  apply Array.ext
  · simp [madeCells, rowCells]
  · intro i h1 h2
    simp [madeCells, rowCells, Nat.mod_one]
theorem rowCells_set (ns : List Int) (n : Nat) (x : Int) (h : ns.length < n) : (rowCells ns n).setIfInBounds ns.length (.int .i64 x) = rowCells (ns ++ [x]) n := by
  unfold rowCells
  apply Array.ext'
  obtain ⟨m, hm⟩ : ∃ m, n - ns.length = m + 1 := ⟨n - ns.length - 1, by omega⟩
  have hm2 : n - (ns ++ [x]).length = m := by simp; omega
  rw [hm, hm2, List.replicate_succ]
  simp [List.set_append_right]
theorem rowCells_at (ns : List Int) (n : Nat) (h : ns.length < n) : (rowCells ns n)[ns.length]? = some (.int .i64 0) := by
  obtain ⟨m, hm⟩ : ∃ m, n - ns.length = m + 1 := ⟨n - ns.length - 1, by omega⟩
  simp [rowCells, hm, List.replicate_succ]
theorem heap_setAt {W : World} {g i : Nat} {cs : Array Value} {t : TypeId} (h : W.heap[g]? = some (.cells cs t (0, 0))) (x : Value) : (W.setCell ⟨g, i, none⟩ x).heap[g]? = some (.cells (cs.setIfInBounds i x) t (0, 0)) := by
  simp [World.setCell, Array.getElem?_modify, h]
theorem rowCells_size (ns : List Int) (n : Nat) (h : ns.length ≤ n) : (rowCells ns n).size = n := by simp [rowCells]; omega
theorem rowCells_sl {W : World} {km n : Nat} {ns : List Int} {t : TypeId} {fr : Nat × Nat} (h : W.heap[km]? = some (.cells (rowCells ns n) t fr)) (hn : ns.length = n) (hl : n ≤ 140737488355328) : Sl (Kd.int .i64) W (fun k => k = km) (.slice (some ⟨km, 0, none⟩) n n) ns := by
  subst hn
  refine ⟨_, _, rfl, Nat.le_refl _, hl, fun j x hx => ⟨km, 0, [.int .i64 x], rfl, rfl, rfl, fun i u hu => ?_⟩⟩
  obtain rfl : i = 0 := by have := (List.getElem?_eq_some_iff.1 hu).1; simpa using this
  simp at hu; subst hu
  refine cell_at h ?_
  show (rowCells ns ns.length)[0 + (j * 1 + 0)]? = _
  rw [Nat.mul_one, Nat.add_zero, Nat.zero_add]
  have hj := (List.getElem?_eq_some_iff.1 hx).1
  simp [rowCells, hx]
/-- The rows with one more, and what is left. -/
def RowOut (g base : Nat) (w w' : World) (okA : Nat → Prop) (dv hv sv va : Value) (e : Ending) (rows : List (List Int)) (r : List Tok) : Prop :=
  ∃ va' ok', e = .returned va' ∧ OwnD kRow 32 base ok' va' rows w' ∧ (∀ k, ok' k → okA k ∨ (w.heap.size ≤ k ∧ k < w'.heap.size)) ∧ PB g w' r dv hv sv ∧ Toks r ∧ (va'.ownBlock = va.ownBlock ∨ ∃ k, va'.ownBlock = some k ∧ w.heap.size ≤ k)
theorem OwnD.rowAt {α : Type} {d : Kd α} {hs : 0 < d.sz} {E : TypeId} {base : Nat} {ok : Nat → Prop} {A : Option Addr} {n c : Nat} {xs : List (List α)} {w : World} (h : OwnD (Kd.slice d hs) E base ok (.slice A n c) xs w) (hl : xs.length ≤ 140737488355328) {j : Nat} (hj : j < xs.length) :
    ∃ b v, A = some ⟨b, 0, none⟩ ∧ w.cell? ⟨b, j, none⟩ = some v ∧ Sl d w (fun _ => True) v (nth [] xs j) := by
  obtain ⟨b, o, v, hA, hc, hsl⟩ := (Sl.elems (h.sl hl)).row hj
  obtain ⟨css, _, h3⟩ := h.open_
  rcases h3.2 with ⟨_, h0⟩ | ⟨g, cap, cur, hv, _⟩
  · omega
  · injection hv with hv _ _
    rw [hA] at hv
    injection hv with hv
    injection hv with _ hv _
    subst hv
    exact ⟨b, v, hA, by rw [Nat.zero_add] at hc; exact hc, hsl.mono fun _ _ => trivial⟩
def RowRel (g : Nat) (w wc : World) (doms : List (List Int)) (dv hv sv : Value) (scope : List Int) (ts : List Tok) (t : Tok) (kt km : Nat) (k : Nat) (v : Value) (wr : World) : Prop :=
  ∃ (i : Nat) (ts' : List Tok) (ns : List Int), k = scope.length - i ∧ i ≤ scope.length ∧ ns.length = i ∧ v = .int .i64 i ∧ valsQ doms scope ts = preV ns (valsQ doms (scope.drop i) ts') ∧ PB g wr ts' dv hv sv ∧ Toks ts' ∧
    wr.heap[kt]? = some (.cells (tokC t).toArray 82 (0, 0)) ∧ wr.heap[km]? = some (.cells (rowCells ns scope.length) 3 (0, 0)) ∧ Chg (fun k => k = g) w wr ∧ wc.heap.size ≤ wr.heap.size

set_option maxRecDepth 100000 in
set_option maxHeartbeats 4000000 in
theorem row_p (g base : Nat) (w : World) (ts : List Tok) (doms : List (List Int)) (DA : Option Addr) (Dc : Nat) (hv sv : Value) (okD okS okA : Nat → Prop) (scope : List Int) (SA : Option Addr) (Sc : Nat) (ahead : List (List Int)) (va : Value)
    (h : PB g w ts (.slice DA doms.length Dc) hv sv) (hT : Toks ts) (hD : Sl kRow w okD (.slice DA doms.length Dc) doms) (hDg : ∀ k, okD k → g < k)
    (hS : Sl (Kd.int .i64) w okS (.slice SA scope.length Sc) scope) (hSg : ∀ k, okS k → g < k) (hs6 : scope.length ≤ 6) (hsr : ∀ v ∈ scope, 0 ≤ v ∧ v < doms.length)
    (hA : OwnD kRow 32 base okA va ahead w) (hgb : g < base) (hbs : base ≤ w.heap.size) (hAk : ∀ k, okA k → g < k ∧ k < w.heap.size) (hal : ahead.length ≤ 1000000) :
    Calls Tryz.prog 103 #[.pointer (some ⟨g, 0, none⟩), .slice SA scope.length Sc, va] w fun e w' => Out (rowQ doms scope ahead ts) (RowOut g base w w' okA (.slice DA doms.length Dc) hv sv va e) e ∧ Chg (fun k => k = g ∨ va.ownBlock = some k) w w' := by
  have hgw := h.lt
  obtain ⟨t, r, rfl⟩ := hT.cons
  obtain ⟨AA, Ac, rfl, hAc, _, _⟩ := hA.sl (by omega)
  have HP := Lib.hid h
  have HT := Lib.hid hT
  have HD := Lib.hid hD
  have HS := Lib.hid hS
  have HA := Lib.hid hA
  obtain ⟨A, n, c, hg, hs⟩ := h
  obtain ⟨b, o, rfl, hb, hn, hnc, hmc, c0, c1, c2, c3⟩ := tok_head hs
  have g0 := cell_at hg (i := 0) rfl
  have hn0 : 0 < n := by omega
  have hTK : Hid (tokC t = [.int .i64 t.kind, .string ⟨t.text.toArray⟩, .int .i64 t.n, .int .i64 t.at_]) := Lib.hid rfl
  generalize (ByteArray.mk t.text.toArray) = tb at c1 hTK
  clear hs hg hn hT hD hS hA
  obtain ⟨i0, hi, hz0, hz1, hz2⟩ := info_parts (show (Tryz.prog.info? 3).map (fun i => (i.zero, i.size, i.bytes)) = some (some (.int .i64 0), 1, 8) by kernel_rfl)
  have hmk : ∀ W : World, (Instr.makeSlice 32 (.int .i64 (scope.length : Int)) (.int .i64 (scope.length : Int))).run Tryz.prog W = .ok (.slice (some ⟨W.heap.size, 0, none⟩) scope.length scope.length) (W.alloc (.cells (madeCells #[.int .i64 0] scope.length) 3)) := fun W => by
    have := run_make_rowN (P := Tryz.prog) 32 3 i0 _ Tryz.underlying32 hi hz0 .i64 .i64 scope.length scope.length (Nat.le_refl _) (by rw [hz2]; omega) (by omega) W
    rw [this, hz1, Nat.mul_one]
    rfl
  clear hi hz0 hz1 hz2
  go_enter Tryz.func103, Tryz.ntmps103
  go_wp2_with fail
  go_upto_region 1 with fail
  go_cut [7, 8] (fun s7 s8 wx => RowHead w t scope.length s7 s8 wx)
  case first =>
    go_region_held3 (fun w' => w'.cell? ⟨g, 0, none⟩ = some (.slice (some ⟨b, o, none⟩) n c) ∧ w'.cell? ⟨b, o, none⟩ = some (.int .i64 t.kind) ∧ w'.cell? ⟨b, o + 1, none⟩ = some (.string tb) ∧ w'.cell? ⟨b, o + 2, none⟩ = some (.int .i64 t.n) ∧ w'.cell? ⟨b, o + 3, none⟩ = some (.int .i64 t.at_)) (go_keep) (fail)
    all_goals
      go_wp2_with fail
      go_meet
      first
        | exact row_head _ _ _ (by rw [hTK.out])
        | exact row_head' _ _ _ (by rw [hTK.out])
  case rest =>
    obtain ⟨kt, km, rfl, rfl, hkt, hkm, hbw, hlt, hlm, hne⟩ := hcut
    have HKT := Lib.hid hkt
    have HKM := Lib.hid hkm
    have HB := Lib.hid hbw
    have hsz := hbw.size
    clear hkt hkm hbw hTK c0 c1 c2 c3 g0 hmk
    go_wp2
    go_loopg [23] scope.length (fun k v wr => RowRel g w wc doms (.slice DA doms.length Dc) hv sv scope (t :: r) t kt km k v wr)
    case atStart => exact ⟨0, t :: r, [], by omega, by omega, rfl, rfl, (preV_nil _).symm, HP.out.grown (below_grown0 HB.out none) (by simp), HT.out, HKT.out, by rw [HKM.out, rowCells_nil], chg_of_below HB.out _, Nat.le_refl _⟩
    case round =>
      clear HKT HKM HP HT
      obtain ⟨i, ts2, ns, hk, hil, hns, rfl, hq, hp, hT2, hkt, hkm, hch, hszr⟩ := hrel
      obtain ⟨t2, r2, rfl⟩ := hT2.cons
      have HK := Lib.hid hk
      have HQ := Lib.hid hq
      have HP := Lib.hid hp
      have HT := Lib.hid hT2
      have HKT := Lib.hid hkt
      have HKM := Lib.hid hkm
      have HG := Lib.hid hch
      have HN := Lib.hid hns
      clear hk hq hp hT2 hkt hkm hch hns
      by_cases hlt : i < scope.length
      · obtain ⟨hq0, hq1⟩ := hsr (nth 0 scope i) (List.mem_of_getElem? (nth_get 0 scope i hlt))
        obtain ⟨q, hq⟩ : ∃ q : Nat, nth 0 scope i = q := ⟨(nth 0 scope i).toNat, by omega⟩
        obtain ⟨sb, so, rfl, hsc⟩ := (Sl.elems (HS.out.chg (by decide) HG.out (fun k hk e => by have := hSg k hk; omega))).num hlt
        rw [hq] at hsc hq0 hq1
        have hqd : q < doms.length := by omega
        have hdrop : valsQ doms (scope.drop i) (t2 :: r2) = valsQ doms ((q : Int) :: scope.drop (i + 1)) (t2 :: r2) := by rw [drop_cons scope 0 i hlt, hq]
        have hq2 := HQ.out.trans (congrArg (preV ns) hdrop)
        clear hdrop HQ hq hq0 hq1
        have hn := Lib.hid (number_p g wr t2 r2 _ _ _ 1000000 (by decide) (by decide) HP.out)
        by_cases hk : (t2.kind == 2) = true
        · by_cases hsm : smallB t2.n 1000000 = true
          · have hnq : numberQ 1000000 (t2 :: r2) = .ok (t2, r2) := by simp [numberQ, hk, hsm]
            simp only [hk, hsm, if_true] at hn
            have hTK : Hid (tokC t2 = [.int .i64 t2.kind, .string ⟨t2.text.toArray⟩, .int .i64 t2.n, .int .i64 t2.at_]) := Lib.hid rfl
            generalize (ByteArray.mk t2.text.toArray) = tb2 at hTK
            have HT2 := Lib.hid (HT.out.tail (fun h => by simp [h] at hk))
            clear hk hsm
            go_wp2_with (go_at_call 100; refine hn.out.mono ?_; rintro e W2 ⟨⟨rfl, hp2⟩, hg2⟩; (have HG2 := Lib.hid ((HG.out.trans (chg_g hg2 (fun k => k = g) rfl) (fun _ _ h => h)).alloc (.cells #[.int .i64 t2.kind, .string tb2, .int .i64 t2.n, .int .i64 t2.at_] 82)).drew); (have HP2 := Lib.hid (hp2.alloc (.cells #[.int .i64 t2.kind, .string tb2, .int .i64 t2.n, .int .i64 t2.at_] 82)).drew); (have HC2 := Lib.hid (((chg_g hg2 (fun k => k = g) rfl).alloc (.cells #[.int .i64 t2.kind, .string tb2, .int .i64 t2.n, .int .i64 t2.at_] 82)).drew)); clear hp2 hg2; rw [hTK.out])
            have HX2 := Lib.hid (block_kept (Below.drew (Below.refl _ _)) (heap_alloc_new W2 (.cells #[.int .i64 t2.kind, .string tb2, .int .i64 t2.n, .int .i64 t2.at_] 82)))
            have HKT2 := Lib.hid (HC2.out.heap HKT.out (fun e => by omega))
            have HKM2 := Lib.hid (HC2.out.heap HKM.out (fun e => by omega))
            have hsz2 := HC2.out.size
            clear HKT HKM HC2 hn
            refine wp_region_still_tail 12 (by kernel_rfl) (by kernel_rfl) ?_
            change wpStill _ _ (World.drew (W2.alloc (.cells #[.int .i64 t2.kind, .string tb2, .int .i64 t2.n, .int .i64 t2.at_] 82))) (fun a' => wpList _ _ _ _ a' (World.drew (W2.alloc (.cells #[.int .i64 t2.kind, .string tb2, .int .i64 t2.n, .int .i64 t2.at_] 82)))) _ _
            generalize World.drew (W2.alloc (.cells #[.int .i64 t2.kind, .string tb2, .int .i64 t2.n, .int .i64 t2.at_] 82)) = W at *
            generalize W2.heap.size = k2 at *
            have hdr := HD.out.chg (by decide) HG2.out (fun k hk e => by have := hDg k hk; omega)
            obtain ⟨db, dof, dv, rfl, hdc, hds⟩ := (Sl.elems hdr).row hqd
            have hct := calls_turn (contains_any dv (nth [] doms q) t2.n okD W hds)
            obtain ⟨dA, dc, rfl, _, _, _⟩ := hds
            have HCT := Lib.hid hct
            obtain ⟨A', n', c', hgb2, _⟩ := HP2.out
            have g1 := cell_at hgb2 (i := 1) rfl
            have d0 := cell_at HX2.out (i := 0) rfl
            have d1 := cell_at HX2.out (i := 1) rfl
            have d2 := cell_at HX2.out (i := 2) rfl
            have d3 := cell_at HX2.out (i := 3) rfl
            clear hgb2 hdr hct
            simp only [List.take_succ_cons, List.take_zero, List.drop_succ_cons, List.drop_zero]
            repeat (first | (refine still_plain rfl (fun K hK => ?_); go_simp; refine hK _ ?_; clear hK K) | (refine still_off _ _ _ _ _ rfl rfl rfl rfl rfl (fun K hK => ?_); go_simp; refine hK _ ?_; clear hK K) | (refine still_on _ _ _ _ rfl rfl rfl rfl (fun K hK => ?_); go_simp; refine hK _ ?_; clear hK K) | (refine still_dead _ _ _ _ rfl rfl rfl rfl (fun K hK => ?_); go_simp; refine hK _ ?_; clear hK K))
            ((first | refine still_plain rfl (fun K hK => ?_) | refine still_on _ _ _ _ rfl rfl rfl rfl (fun K hK => ?_)); go_simp; refine ⟨_, HCT.out, hK _ ?_⟩; clear hK K)
            repeat (first | (refine still_plain rfl (fun K hK => ?_); go_simp; refine hK _ ?_; clear hK K) | (refine still_off _ _ _ _ _ rfl rfl rfl rfl rfl (fun K hK => ?_); go_simp; refine hK _ ?_; clear hK K) | (refine still_on _ _ _ _ rfl rfl rfl rfl (fun K hK => ?_); go_simp; refine hK _ ?_; clear hK K) | (refine still_dead _ _ _ _ rfl rfl rfl rfl (fun K hK => ?_); go_simp; refine hK _ ?_; clear hK K))
            refine wpStill_nil ?_
            by_cases hmem : t2.n ∈ nth [] doms q
            · have HR : Hid (valsQ doms scope (t :: r) = preV (ns ++ [t2.n]) (valsQ doms (scope.drop (i + 1)) r2)) := Lib.hid (by rw [hq2, valsQ_go hnq (by simpa using hmem), preV_preV])
              have hdb : decide (t2.n ∈ nth [] doms q) = true := by simpa using hmem
              clear hq2 hnq
              go_wp2_with (go_at_call 67; refine (must_yes _ _ _ _ _ _ _ (by first | rfl | exact hdb)).mono ?_; rintro e W5 ⟨rfl, hb5⟩; (have HX5 := Lib.hid (block_kept hb5 HX2.out)); (have HKM5 := Lib.hid (block_kept hb5 HKM2.out)); (have HKT5 := Lib.hid (block_kept hb5 HKT2.out)); (have HG5 := Lib.hid (HG2.out.thenBelow hb5)); (have HP5 := Lib.hid (HP2.out.grown (below_grown0 hb5 none) (by simp))); (have e2 := cell_at HX5.out (i := 2) rfl); (have e3 := cell_at HKM5.out (i := i) (u := .int .i64 0) (by rw [← HN.out]; exact rowCells_at ns scope.length (by have := HN.out; omega))); (have e4 := Lib.frozen_of_heap HKM5.out i); (have hwc5 : wc.heap.size ≤ W5.heap.size := by have := hb5.size; omega); clear hb5 d0 d1 d2 d3 HX2 HG2 HP2 HKM2 HKT2)
              go_roundg (scope.length - (i + 1))
              case rel => exact ⟨i + 1, r2, ns ++ [t2.n], rfl, by omega, by simp; exact HN.out, by go_num, HR.out, HP5.out.chg (chg_setCell W5 km i _) (fun k hk e => by omega), HT2.out, (chg_setCell W5 km i _).heap HKT5.out (fun e => by omega),
                by rw [heap_setAt HKM5.out, ← rowCells_set ns scope.length t2.n (by have := HN.out; omega), HN.out], HG5.out.trans (chg_setCell W5 km i _) (fun j hj e => by omega), by rw [Go.Deep.nblk_setCell]; exact hwc5⟩
              case measure => have := HK.out; omega
            · have HR : Hid (rowQ doms scope ahead (t :: r) = .error (t2.at_, 6)) := Lib.hid (by rw [rowQ, hq2, valsQ_bad hnq (by simpa using hmem)]; rfl)
              have hdb : decide (t2.n ∈ nth [] doms q) = false := by simpa using hmem
              clear hq2 hnq
              go_wp2_with (go_at_call 67; refine (must_no _ _ _ _ _ _ _ (by first | rfl | exact hdb)).mono ?_; rintro e W5 ⟨rfl, hb5⟩; refine ⟨rfl, ?_⟩; rw [HR.out]; exact ⟨rfl, (HG2.out.thenBelow hb5).mono (fun _ _ h => Or.inl h)⟩)
          · have hsm := Bool.eq_false_iff.2 hsm
            have hnq : numberQ 1000000 (t2 :: r2) = .error (t2.at_, 4) := by simp [numberQ, hk, hsm]
            have HR : Hid (rowQ doms scope ahead (t :: r) = .error (t2.at_, 4)) := Lib.hid (by rw [rowQ, hq2, valsQ_num hnq]; rfl)
            simp only [hk, hsm, Bool.false_eq_true, if_false, if_true] at hn
            clear hq2 hnq hk hsm
            go_wp2_with (go_at_call 100; refine hn.out.mono ?_; rintro e W2 ⟨rfl, hg2⟩; refine ⟨rfl, ?_⟩; rw [HR.out]; exact ⟨rfl, (HG.out.trans (chg_g hg2 (fun k => k = g) rfl) (fun _ _ h => h)).mono (fun _ _ h => Or.inl h)⟩)
        · have hk := Bool.eq_false_iff.2 hk
          have hnq : numberQ 1000000 (t2 :: r2) = .error (t2.at_, 3) := by simp [numberQ, hk]
          have HR : Hid (rowQ doms scope ahead (t :: r) = .error (t2.at_, 3)) := Lib.hid (by rw [rowQ, hq2, valsQ_num hnq]; rfl)
          simp only [hk, Bool.false_eq_true, if_false] at hn
          clear hq2 hnq hk
          go_wp2_with (go_at_call 100; refine hn.out.mono ?_; rintro e W2 ⟨rfl, hg2⟩; refine ⟨rfl, ?_⟩; rw [HR.out]; exact ⟨rfl, (HG.out.trans (chg_g hg2 (fun k => k = g) rfl) (fun _ _ h => h)).mono (fun _ _ h => Or.inl h)⟩)
      · have hie : i = scope.length := by omega
        have hq2 : valsQ doms scope (t :: r) = .ok (ns, t2 :: r2) := by rw [HQ.out, hie, List.drop_length]; simp [valsQ, preV]
        have hR : rowQ doms scope ahead (t :: r) = if ahead.length = 0 ∨ cmpL (nth [] ahead (ahead.length - 1)) ns < 0 then .ok (ahead ++ [ns], t2 :: r2) else .error (t.at_, 6) := by
          rw [rowQ, hq2]
          rfl
        have HN2 : Hid (ns.length = scope.length) := Lib.hid (by rw [HN.out, hie])
        clear HQ hq2 HN hie
        have HTK : Hid (tokC t = [.int .i64 t.kind, .string ⟨t.text.toArray⟩, .int .i64 t.n, .int .i64 t.at_]) := Lib.hid rfl
        obtain ⟨iR, hiR, hR0, hR1, hR2⟩ := info_parts (show (Tryz.prog.info? 32).map (fun i => (i.zero, i.size, i.bytes)) = some (some (.slice none 0 0), 1, 24) by kernel_rfl)
        have HG2 := Lib.hid HG.out.drew
        have HP2 := Lib.hid HP.out.drew
        have hkt2 : (World.drew wr).heap[kt]? = _ := HKT.out
        have HKM2 : Hid ((World.drew wr).heap[km]? = _) := HKM
        have HA2 := Lib.hid (HA.out.chg HG2.out (fun k hk e => by have := hAk k hk; omega) (fun k hk e => by have := HA.out.own k hk; omega))
        rw [HTK.out] at hkt2
        generalize (ByteArray.mk t.text.toArray) = tb2 at hkt2
        have d0 := cell_at hkt2 (i := 0) rfl
        have d1 := cell_at hkt2 (i := 1) rfl
        have d2 := cell_at hkt2 (i := 2) rfl
        have d3 := cell_at hkt2 (i := 3) rfl
        have hkmw := lt_of_block HKM.out
        go_wp2_with fail
        refine wp_region_still_tail 15 (by kernel_rfl) (by kernel_rfl) ?_
        change wpStill _ _ (World.drew wr) (fun a' => wpList _ _ _ _ a' (World.drew wr)) _ _
        have hkmw2 : km < (World.drew wr).heap.size := hkmw
        clear HG HP HKT HKM hkt2 hkmw HTK
        generalize World.drew wr = W at *
        simp only [List.take_succ_cons, List.take_zero, List.drop_succ_cons, List.drop_zero]
        by_cases h0 : ahead.length = 0
        · obtain rfl : ahead = [] := List.eq_nil_of_length_eq_zero h0
          have HR : Hid (rowQ doms scope [] (t :: r) = .ok ([] ++ [ns], t2 :: r2)) := Lib.hid (by rw [hR, if_pos (.inl rfl)])
          have hdb : True := trivial
          clear hR h0
          repeat (first | (refine still_plain rfl (fun K hK => ?_); go_simp; refine hK _ ?_; clear hK K) | (refine still_off _ _ _ _ _ rfl rfl rfl rfl rfl (fun K hK => ?_); go_simp; refine hK _ ?_; clear hK K) | (refine still_on _ _ _ _ rfl rfl rfl rfl (fun K hK => ?_); go_simp; refine hK _ ?_; clear hK K) | (refine still_dead _ _ _ _ rfl rfl rfl rfl (fun K hK => ?_); go_simp; refine hK _ ?_; clear hK K))
          refine wpStill_nil ?_
          go_wp2_with (first
            | (go_at_call 67; refine (must_yes _ _ _ _ _ _ _ (by first | rfl | exact hdb)).mono ?_; rintro e W5 ⟨rfl, hb5⟩; (have HKM5 := Lib.hid (block_kept (below_alloc1 W5 (.cells #[.slice (some ⟨km, 0, none⟩) scope.length scope.length] 32)) (block_kept hb5 HKM2.out))); (have HG5 := Lib.hid ((HG2.out.thenBelow hb5).alloc (.cells #[.slice (some ⟨km, 0, none⟩) scope.length scope.length] 32))); (have HP5 := Lib.hid ((HP2.out.grown (below_grown0 hb5 none) (by simp)).alloc (.cells #[.slice (some ⟨km, 0, none⟩) scope.length scope.length] 32))); (have ho5 := (((HA2.out.chg (chg_of_below hb5 (fun _ => False)) (fun _ _ h => h.elim) (fun _ _ h => h.elim)).chg (Chg.alloc0 W5 (.cells #[.slice (some ⟨km, 0, none⟩) scope.length scope.length] 32) (fun _ => False)) (fun _ _ h => h.elim) (fun _ _ h => h.elim)).mono (ok' := fun k => okA k ∨ k = km) (fun _ h => Or.inl h) (fun k hk h => by have h1 := HA.out.own k hk; rcases h with h | h; exact h1.2.2 h; omega))); obtain ⟨css, hc1, hc2⟩ := ho5.open_; (have HC1 := Lib.hid hc1); (have HC2 := Lib.hid hc2); (have hws5 : w.heap.size ≤ W5.heap.size := by have := HG5.out.size; have := hb5.size; omega); (have hkm5 : km < W5.heap.size := by have := hb5.size; omega); clear hb5 d0 d1 d2 d3 HG2 HP2 HKM2 HA2 ho5 hc1 hc2)
            | (at_builtin; refine wpList_append_lies _ rfl _ _ 26 rfl base 32 iR _ 1 24 Tryz.underlying26 hiR hR0 hR1 hR2 rfl (by decide) _ ([] : List (List Int)).length css.flatten rfl HC2.out ⟨_, 0, none⟩ 1 1 [.slice (some ⟨km, 0, none⟩) scope.length scope.length] rfl rfl (World.news_of_block (cs := #[.slice (some ⟨km, 0, none⟩) scope.length scope.length]) (t := 32) (fr := (0, 0)) (heap_alloc_new W5 _)) (by simp [Value.oneCell']) (by decide) (by (try simp only [maxLen]); (try simp); try omega) (by (try simp); try omega) (by simp; omega) (W5.heap.size + 1) (by simp) ?_))
          intro kb cap w2 hown' hgrow hat hlt
          have HX := Lib.hid (OwnD.snoc (x := ns) HC1.out.1 HC1.out.2.1 HC1.out.2.2 ⟨_, rfl, (rowCells_sl HKM5.out HN2.out (by omega)).mono (fun _ h => Or.inr h)⟩ hgrow hown' (hat_of hat (by simp)) (fun k hk => by simp; rcases hk with hk | hk; have := hAk k hk; omega; omega))
          have HG6 := Lib.hid ((HG5.out.mono (fun j _ h => (Or.inl h : j = g ∨ (Value.slice AA ([] : List (List Int)).length Ac).ownBlock = some j))).trans (chg_of_grown hgrow) (fun j hj hs => Or.inr hs))
          have HP6 := Lib.hid (HP5.out.grown hgrow (fun k hk => by have := (HC2.out.lt k hk).1; omega))
          have hs6' : W5.heap.size < w2.heap.size := by have := hgrow.size; simp at this; omega
          clear hown' hgrow
          go_wp2
          go_ret
          refine ⟨?_, HG6.out⟩
          rw [HR.out]
          refine ⟨_, _, rfl, HX.out, fun k hk => ?_, HP6.out, HT.out, ?_⟩
          · rcases hk with hk | hk
            · exact Or.inl hk
            · exact Or.inr ⟨by omega, by omega⟩
          · rcases hat with h | h
            · exact Or.inl h.symm
            · exact Or.inr ⟨kb, rfl, by omega⟩
        · have hb0 : ((ahead.length : Int) == 0) = false := beq_eq_false_iff_ne.2 (by omega)
          have h3p : 0 < ahead.length := by omega
          have w1 : IntKind.i64.wrap ((ahead.length : Int) - 1) = (ahead.length : Int) - 1 := IntWalk.i64_in _ (by omega)
          have w2 : ((ahead.length : Int) - 1).toNat = ahead.length - 1 := by omega
          have w3 : (0 : Int) ≤ (ahead.length : Int) - 1 := by omega
          have w5 : (1 : Int) ≤ (ahead.length : Int) := by omega
          have w4 : (ahead.length : Int) - 1 < (ahead.length : Int) := by omega
          obtain ⟨ab, lv, rfl, hlc, hls⟩ := HA2.out.rowAt (by omega) (j := ahead.length - 1) (by omega)
          have HCT := Lib.hid (calls_turn (tcompare_any _ _ _ _ _ W hls ((rowCells_sl HKM2.out HN2.out (by omega)).mono (fun _ _ => trivial))))
          obtain ⟨lA, lc, rfl, _, _, _⟩ := hls
          by_cases hcm : cmpL (nth [] ahead (ahead.length - 1)) ns < 0
          · have HR : Hid (rowQ doms scope ahead (t :: r) = .ok (ahead ++ [ns], t2 :: r2)) := Lib.hid (by rw [hR, if_pos (.inr hcm)])
            have hdb : decide (cmpL (nth [] ahead (ahead.length - 1)) ns < 0) = true := by simpa using hcm
            clear hR h0
            repeat (first | (refine still_plain rfl (fun K hK => ?_); go_simp; refine hK _ ?_; clear hK K) | (refine still_off _ _ _ _ _ rfl rfl rfl rfl rfl (fun K hK => ?_); go_simp; refine hK _ ?_; clear hK K) | (refine still_on _ _ _ _ rfl rfl rfl rfl (fun K hK => ?_); go_simp; refine hK _ ?_; clear hK K) | (refine still_dead _ _ _ _ rfl rfl rfl rfl (fun K hK => ?_); go_simp; refine hK _ ?_; clear hK K))
            ((first | refine still_plain rfl (fun K hK => ?_) | refine still_on _ _ _ _ rfl rfl rfl rfl (fun K hK => ?_)); go_simp; refine ⟨_, HCT.out, hK _ ?_⟩; clear hK K)
            repeat (first | (refine still_plain rfl (fun K hK => ?_); go_simp; refine hK _ ?_; clear hK K) | (refine still_off _ _ _ _ _ rfl rfl rfl rfl rfl (fun K hK => ?_); go_simp; refine hK _ ?_; clear hK K) | (refine still_on _ _ _ _ rfl rfl rfl rfl (fun K hK => ?_); go_simp; refine hK _ ?_; clear hK K) | (refine still_dead _ _ _ _ rfl rfl rfl rfl (fun K hK => ?_); go_simp; refine hK _ ?_; clear hK K))
            refine wpStill_nil ?_
            go_wp2_with (first
              | (go_at_call 67; refine (must_yes _ _ _ _ _ _ _ (by first | rfl | exact hdb)).mono ?_; rintro e W5 ⟨rfl, hb5⟩; (have HKM5 := Lib.hid (block_kept (below_alloc1 W5 (.cells #[.slice (some ⟨km, 0, none⟩) scope.length scope.length] 32)) (block_kept hb5 HKM2.out))); (have HG5 := Lib.hid ((HG2.out.thenBelow hb5).alloc (.cells #[.slice (some ⟨km, 0, none⟩) scope.length scope.length] 32))); (have HP5 := Lib.hid ((HP2.out.grown (below_grown0 hb5 none) (by simp)).alloc (.cells #[.slice (some ⟨km, 0, none⟩) scope.length scope.length] 32))); (have ho5 := (((HA2.out.chg (chg_of_below hb5 (fun _ => False)) (fun _ _ h => h.elim) (fun _ _ h => h.elim)).chg (Chg.alloc0 W5 (.cells #[.slice (some ⟨km, 0, none⟩) scope.length scope.length] 32) (fun _ => False)) (fun _ _ h => h.elim) (fun _ _ h => h.elim)).mono (ok' := fun k => okA k ∨ k = km) (fun _ h => Or.inl h) (fun k hk h => by have h1 := HA.out.own k hk; rcases h with h | h; exact h1.2.2 h; omega))); obtain ⟨css, hc1, hc2⟩ := ho5.open_; (have HC1 := Lib.hid hc1); (have HC2 := Lib.hid hc2); (have hws5 : w.heap.size ≤ W5.heap.size := by have := HG5.out.size; have := hb5.size; omega); (have hkm5 : km < W5.heap.size := by have := hb5.size; omega); clear hb5 d0 d1 d2 d3 HG2 HP2 HKM2 HA2 ho5 hc1 hc2)
              | (at_builtin; refine wpList_append_lies _ rfl _ _ 26 rfl base 32 iR _ 1 24 Tryz.underlying26 hiR hR0 hR1 hR2 rfl (by decide) _ ahead.length css.flatten rfl HC2.out ⟨_, 0, none⟩ 1 1 [.slice (some ⟨km, 0, none⟩) scope.length scope.length] rfl rfl (World.news_of_block (cs := #[.slice (some ⟨km, 0, none⟩) scope.length scope.length]) (t := 32) (fr := (0, 0)) (heap_alloc_new W5 _)) (by simp [Value.oneCell']) (by decide) (by (try simp only [maxLen]); (try simp); try omega) (by (try simp); try omega) (by simp; omega) (W5.heap.size + 1) (by simp) ?_))
            intro kb cap w2 hown' hgrow hat hlt
            have HX := Lib.hid (OwnD.snoc (x := ns) HC1.out.1 HC1.out.2.1 HC1.out.2.2 ⟨_, rfl, (rowCells_sl HKM5.out HN2.out (by omega)).mono (fun _ h => Or.inr h)⟩ hgrow hown' (hat_of hat (by simp)) (fun k hk => by simp; rcases hk with hk | hk; have := hAk k hk; omega; omega))
            have HG6 := Lib.hid ((HG5.out.mono (fun j _ h => (Or.inl h : j = g ∨ (Value.slice (some ⟨ab, 0, none⟩) ahead.length Ac).ownBlock = some j))).trans (chg_of_grown hgrow) (fun j hj hs => Or.inr hs))
            have HP6 := Lib.hid (HP5.out.grown hgrow (fun k hk => by have := (HC2.out.lt k hk).1; omega))
            have hs6' : W5.heap.size < w2.heap.size := by have := hgrow.size; simp at this; omega
            clear hown' hgrow
            go_wp2
            go_ret
            refine ⟨?_, HG6.out⟩
            rw [HR.out]
            refine ⟨_, _, rfl, HX.out, fun k hk => ?_, HP6.out, HT.out, ?_⟩
            · rcases hk with hk | hk
              · exact Or.inl hk
              · exact Or.inr ⟨by omega, by omega⟩
            · rcases hat with h | h
              · exact Or.inl h.symm
              · exact Or.inr ⟨kb, rfl, by omega⟩
          · have HR : Hid (rowQ doms scope ahead (t :: r) = .error (t.at_, 6)) := Lib.hid (by rw [hR, if_neg (by omega)])
            have hdb : decide (cmpL (nth [] ahead (ahead.length - 1)) ns < 0) = false := by simpa using hcm
            clear hR h0
            repeat (first | (refine still_plain rfl (fun K hK => ?_); go_simp; refine hK _ ?_; clear hK K) | (refine still_off _ _ _ _ _ rfl rfl rfl rfl rfl (fun K hK => ?_); go_simp; refine hK _ ?_; clear hK K) | (refine still_on _ _ _ _ rfl rfl rfl rfl (fun K hK => ?_); go_simp; refine hK _ ?_; clear hK K) | (refine still_dead _ _ _ _ rfl rfl rfl rfl (fun K hK => ?_); go_simp; refine hK _ ?_; clear hK K))
            ((first | refine still_plain rfl (fun K hK => ?_) | refine still_on _ _ _ _ rfl rfl rfl rfl (fun K hK => ?_)); go_simp; refine ⟨_, HCT.out, hK _ ?_⟩; clear hK K)
            repeat (first | (refine still_plain rfl (fun K hK => ?_); go_simp; refine hK _ ?_; clear hK K) | (refine still_off _ _ _ _ _ rfl rfl rfl rfl rfl (fun K hK => ?_); go_simp; refine hK _ ?_; clear hK K) | (refine still_on _ _ _ _ rfl rfl rfl rfl (fun K hK => ?_); go_simp; refine hK _ ?_; clear hK K) | (refine still_dead _ _ _ _ rfl rfl rfl rfl (fun K hK => ?_); go_simp; refine hK _ ?_; clear hK K))
            refine wpStill_nil ?_
            go_wp2_with (go_at_call 67; refine (must_no _ _ _ _ _ _ _ (by first | rfl | exact hdb)).mono ?_; rintro e W5 ⟨rfl, hb5⟩; refine ⟨rfl, ?_⟩; rw [HR.out]; exact ⟨rfl, (HG2.out.thenBelow hb5).mono (fun _ _ h => Or.inl h)⟩)
end Go.Proofs.YtgpgmmkkmoecmaaGreatDoor

/- Regions that draw their order, walked in one order, calls and writes among them: what is read is the same in every world that meets S. Plain lemmas over the model; no program. -/
namespace Go.Proofs.YtgpgmmkkmoecmaaGreatDoor
open Go.RowKit

section
variable {P : Program} {ops : Array Oper} {Q : Exit → Act → World → Prop} {S : World → Prop}

/-- Behind operation j S is to be shown: it is marked, or some marked one may come behind it. -/
def mustB (ops : Array Oper) (ms : List Bool) (j : Nat) : Bool := ms.getD j false || !((List.range ops.size).all fun i => !(ms.getD i false) || Region.waitsFor .any ops j i)
/-- Whatever order is picked; S behind those that 'must' names. -/
def wpM (P : Program) (ops : Array Oper) (Q : Exit → Act → World → Prop) (S : World → Prop) (must : Nat → Bool) : Nat → Array Bool → Act → World → Prop
  | 0, listed, a, w => Region.ready .any ops listed = [] ∧ Q .normal a w
  | f + 1, listed, a, w => (Region.ready .any ops listed = [] → Q .normal a w) ∧
      ∀ i ∈ Region.ready .any ops listed, wpOp P ops Q i (fun a' w' => (must i = true → S w') ∧ wpM P ops Q S must f (listed.setIfInBounds i true) a' w') a w
theorem wpAny_of_M {must : Nat → Bool} : ∀ (f : Nat) (listed : Array Bool) (a : Act) (w : World), wpM P ops Q S must f listed a w → wpAny P .any ops Q f listed a w
  | 0, _, _, _, h => h
  | f + 1, _, _, _, h => ⟨h.1, fun i hi => wpOp_mono (fun a' w' h' => wpAny_of_M f _ a' w' h'.2) (h.2 i hi)⟩
theorem not_waits {i j : Nat} {oj : Oper} {listed : Array Bool} (hi : listed.getD i true = false) (_ : ops[j]? = some oj) (hall : ∀ e ∈ oj.after, Region.binds .any e = true → listed.getD e.on false = true) : ∀ e ∈ oj.after, Region.binds .any e = true → e.on ≠ i := by
  intro e he hb heq
  have h1 := hall e he hb
  rw [heq, getD_both hi] at h1
  cases h1
theorem wpM_first {must : Nat → Bool} {i : Nat} {oi : Oper} {v : Value} (hi : ops[i]? = some oi) (hsel : ∀ (j : Nat) (o : Oper) cs b, ops[j]? = some o → o.op ≠ .select cs b)
    (hQ : ∀ c a w, Q (.panic c) (a.put oi.dst v) w → Q (.panic c) a w) (hm : ∀ j, must j = true ∨ Region.waitsFor .any ops j i = true) :
    ∀ (f : Nat) (listed : Array Bool) (a : Act) (w : World),
      (∀ j oj, ops[j]? = some oj → j ≠ i → listed.getD j true = false → (∀ e ∈ oj.after, Region.binds .any e = true → e.on ≠ i) → oi.apart ops oj = true) →
      i ∈ Region.ready .any ops listed → YieldsIf P ops S oi v a → S w →
      wpM P ops Q S must f (listed.setIfInBounds i true) (a.put oi.dst v) w → wpM P ops Q S must (f + 1) listed a w := by
  intro f
  induction f with
  | zero =>
    intro listed a w _ hr hy hS H
    refine ⟨fun h => (by rw [h] at hr; cases hr), fun j hj => ?_⟩
    by_cases hji : j = i
    · subst hji; exact hy.wpOp hi hS ⟨fun _ => hS, H⟩
    · have := ready_mono hj hji
      rw [H.1] at this
      cases this
  | succ f ih =>
    intro listed a w hfree hr hy hS H
    refine ⟨fun h => (by rw [h] at hr; cases hr), fun j hj => ?_⟩
    by_cases hji : j = i
    · subst hji; exact hy.wpOp hi hS ⟨fun _ => hS, H⟩
    · have h1 := H.2 j (ready_mono hj hji)
      obtain ⟨hjun, oj, hoj, hall⟩ := mem_ready.1 hj
      have hnot := not_waits (mem_ready.1 hr).1 hoj hall
      have hmj : must j = true := by
        rcases hm j with h | h
        · exact h
        · obtain ⟨oj', hoj', e, he, hb, hon⟩ := Region.waitsFor_spec h
          obtain rfl : oj' = oj := Option.some.inj (hoj'.symm.trans hoj)
          exact absurd hon (hnot e he hb)
      have h2 := wpOp_putIf hoj (hfree j oj hoj hji hjun hnot) (fun cs b => hsel i oi cs b hi) (fun cs b => hsel j oj cs b hoj) hQ hy h1
      refine wpOp_mono (fun a' w' h3 => ⟨h3.2.1, ih (listed.setIfInBounds j true) a' w' (fun k ok hk hki hun hno => ?_) (ready_mono hr (Ne.symm hji)) h3.1 (h3.2.1 hmj) ?_⟩) h2
      · refine hfree k ok hk hki ?_ hno
        by_cases hjk : j = k
        · subst hjk; exact hjun
        · rw [getD_set_ne true hjk] at hun; exact hun
      · rw [Array.setIfInBounds_comm _ _ hji]
        exact h3.2.2

/-- The order of the text serves: each marked operation may be taken first, each other stands alone. -/
def lexMB (ops : Array Oper) : List Bool → Nat → Array Bool → Bool
  | [], _, listed => (Region.ready .any ops listed).isEmpty
  | b :: m, k, listed => (if b then (Region.ready .any ops listed).contains k && Region.free .any ops listed k else decide (Region.ready .any ops listed = [k])) && lexMB ops m (k + 1) (listed.setIfInBounds k true)
def wpLex (P : Program) (ops : Array Oper) (Q : Exit → Act → World → Prop) (S : World → Prop) (ms : List Bool) : Nat → List Bool → List Oper → Act → World → Prop
  | k, true :: m, o :: rest, a, w => S w ∧ ∃ v, YieldsIf P ops S o v a ∧ wpLex P ops Q S ms (k + 1) m rest (a.put o.dst v) w
  | k, false :: m, o :: rest, a, w =>
    if Region.wanted o (yielded ops a.tmps) then o.wp P a w (fun a' w' => (mustB ops ms k = true → S w') ∧ wpLex P ops Q S ms (k + 1) m rest a' w') Q ∨ (o.asks P a w ∧ LetsOut Q)
    else (mustB ops ms k = true → S w) ∧ wpLex P ops Q S ms (k + 1) m rest (a.put o.dst undef) w
  | _, _, [], a, w => Q .normal a w
  | _, [], _ :: _, _, _ => False
theorem wpM_lex {ms : List Bool} (hsel : Region.noSelect ops = true) (hQ : ∀ c (a : Act) d v w, Q (.panic c) (a.put d v) w → Q (.panic c) a w) :
    ∀ (m : List Bool) (l : List Oper) (k : Nat) (listed : Array Bool) (a : Act) (w : World), (∀ j, l[j]? = ops[k + j]?) → (∀ j, m[j]? = ms[k + j]?) → m.length = l.length → lexMB ops m k listed = true → wpLex P ops Q S ms k m l a w →
      wpM P ops Q S (mustB ops ms) l.length listed a w
  | [], [], k, listed, a, w, _, _, _, hB, h => ⟨by simpa [lexMB] using hB, h⟩
  | [], _ :: _, _, _, _, _, _, _, hl, _, _ => by simp at hl
  | _ :: _, [], _, _, _, _, _, _, hl, _, _ => by simp at hl
  | b :: m, o :: l, k, listed, a, w, hops, hms, hl, hB, h => by
    have h0 : ops[k]? = some o := by simpa using (hops 0).symm
    have hops' : ∀ j, l[j]? = ops[k + 1 + j]? := fun j => by have := hops (j + 1); simpa [Nat.add_assoc, Nat.add_comm 1 j] using this
    have hms' : ∀ j, m[j]? = ms[k + 1 + j]? := fun j => by have := hms (j + 1); simpa [Nat.add_assoc, Nat.add_comm 1 j] using this
    have hl' : m.length = l.length := by simpa using hl
    simp only [lexMB, Bool.and_eq_true] at hB
    obtain ⟨hb, hB'⟩ := hB
    cases b with
    | true =>
      simp only [if_true, Bool.and_eq_true] at hb
      obtain ⟨hS, v, hy, hr⟩ := h
      refine wpM_first h0 (Region.noSelect_spec hsel) (fun c a w => hQ c a o.dst v w) (fun j => ?_) l.length listed a w (Region.free_spec h0 hb.2) (by simpa using hb.1) hy hS (wpM_lex hsel hQ m l (k + 1) _ _ w hops' hms' hl' hB' hr)
      by_cases hmu : mustB ops ms j = true
      · exact .inl hmu
      · refine .inr ?_
        have hmu := Bool.eq_false_iff.2 hmu
        simp only [mustB, Bool.or_eq_false_iff, Bool.not_eq_false', List.all_eq_true, List.mem_range, Bool.or_eq_true, Bool.not_eq_true'] at hmu
        have hk : ms.getD k false = true := by have := hms 0; simp at this; simp [← this]
        rcases hmu.2 k (Array.getElem?_eq_some_iff.1 h0).1 with h | h
        · rw [hk] at h; cases h
        · exact h
    | false =>
      simp only [Bool.false_eq_true, if_false, decide_eq_true_eq] at hb
      refine ⟨fun h1 => (by rw [hb] at h1; cases h1), fun i hi => ?_⟩
      rw [hb] at hi
      obtain rfl : i = k := by simpa using hi
      unfold wpOp
      simp only [h0]
      simp only [wpLex] at h
      split
      · rename_i hw
        rw [if_pos hw] at h
        exact h.imp (Oper.wp_mono (fun a' w' h' => ⟨h'.1, wpM_lex hsel hQ m l (i + 1) _ a' w' hops' hms' hl' hB' h'.2⟩)) id
      · rename_i hw
        rw [if_neg hw] at h
        exact ⟨h.1, wpM_lex hsel hQ m l (i + 1) _ _ w hops' hms' hl' hB' h.2⟩
/-- A region that draws its order, walked in the order of its text. 'ms': which operations only read, and may be taken first; S: what they read. -/
theorem wp_region_lex {id : Nat} {a : Act} {w : World} {l : List Oper} (S : World → Prop) (ms : List Bool) (hm : P.follows .mixedOrders = true) (hB : (Region.noSelect l.toArray && (lexMB l.toArray ms 0 (Array.replicate l.length false) && decide (ms.length = l.length))) = true)
    (hQ : ∀ c (a : Act) d v w, Q (.panic c) (a.put d v) w → Q (.panic c) a w)
    (h : wpLex P l.toArray Q S ms 0 ms l a { w with drawn := w.drawn + 1 }) : (Code.region id l.toArray true).wp P Q a w := by
  simp only [Bool.and_eq_true, decide_eq_true_eq] at hB
  refine wp_region_any hm (wpAny_of_M (S := S) (must := mustB l.toArray ms) _ _ _ _ ?_)
  have := wpM_lex (S := S) hB.1 hQ ms l 0 (Array.replicate l.length false) a { w with drawn := w.drawn + 1 } (fun j => by simp) (fun j => by simp) hB.2.2 hB.2.1 h
  simpa using this
/-! ### The steps -/
variable {ms m : List Bool} {k : Nat} {o : Oper} {rest : List Oper} {a : Act} {w : World}
theorem lex_take {v : Value} (hS : S w) (hg : o.guard = none) (hy : ∀ w', S w' → (execOp a.eval o).run P w' = .ok (.value v) w') (h : ∀ K : Act → World → Prop, (∀ a w, wpLex P ops Q S ms (k + 1) m rest a w → K a w) → K (a.put o.dst v) w) : wpLex P ops Q S ms k (true :: m) (o :: rest) a w :=
  ⟨hS, v, .inl ⟨by simp [Region.wanted, hg], hy⟩, h _ fun _ _ h => h⟩
theorem lex_take_on {v : Value} (i : Nat) (b : Bool) (oi : Oper) (d : Nat) (hS : S w) (hg : o.guard = some (i, b)) (hoi : ops[i]? = some oi) (hd : oi.dst = some d) (hv : a.tmps[d]? = some (.bool b))
    (hy : ∀ w', S w' → (execOp a.eval o).run P w' = .ok (.value v) w') (h : ∀ K : Act → World → Prop, (∀ a w, wpLex P ops Q S ms (k + 1) m rest a w → K a w) → K (a.put o.dst v) w) : wpLex P ops Q S ms k (true :: m) (o :: rest) a w :=
  ⟨hS, v, .inl ⟨by simp [Region.wanted, hg, yielded, hoi, hd, hv], hy⟩, h _ fun _ _ h => h⟩
theorem lex_take_off (i : Nat) (b c : Bool) (oi : Oper) (d : Nat) (hS : S w) (hg : o.guard = some (i, b)) (hoi : ops[i]? = some oi) (hd : oi.dst = some d) (hv : a.tmps[d]? = some (.bool c)) (hbc : (c == b) = false)
    (h : ∀ K : Act → World → Prop, (∀ a w, wpLex P ops Q S ms (k + 1) m rest a w → K a w) → K (a.put o.dst undef) w) : wpLex P ops Q S ms k (true :: m) (o :: rest) a w :=
  ⟨hS, undef, .inr ⟨by
    simp only [Region.wanted, hg, yielded, hoi, hd, hv, Option.bind_some]
    cases b <;> cases c <;> simp_all, rfl⟩, h _ fun _ _ h => h⟩
theorem lex_step (hg : o.guard = none) (h : ∀ K : Act → World → Prop, (∀ a w, S w → wpLex P ops Q S ms (k + 1) m rest a w → K a w) → o.wp P a w K Q) : wpLex P ops Q S ms k (false :: m) (o :: rest) a w := by
  unfold wpLex
  rw [if_pos (by simp [Region.wanted, hg])]
  exact .inl (h _ fun a' w' hS h' => ⟨fun _ => hS, h'⟩)
theorem lex_free (hg : o.guard = none) (hm : mustB ops ms k = false) (h : ∀ K : Act → World → Prop, (∀ a w, wpLex P ops Q S ms (k + 1) m rest a w → K a w) → o.wp P a w K Q) : wpLex P ops Q S ms k (false :: m) (o :: rest) a w := by
  unfold wpLex
  rw [if_pos (by simp [Region.wanted, hg])]
  exact .inl (h _ fun a' w' h' => ⟨fun h => (by rw [hm] at h; cases h), h'⟩)
theorem lex_nil (h : Q .normal a w) : wpLex P ops Q S ms k [] [] a w := h
/-- What is left stands alone, one behind the other, and S is wanted no more: an ordinary list. -/
def restB (ops : Array Oper) (ms : List Bool) : List Bool → Nat → Bool
  | [], _ => true
  | b :: m, k => !b && !mustB ops ms k && restB ops ms m (k + 1)
theorem lex_list : ∀ (m : List Bool) (l : List Oper) (k : Nat) (a : Act) (w : World), m.length = l.length → restB ops ms m k = true → wpList P ops Q l a w → wpLex P ops Q S ms k m l a w
  | [], [], _, _, _, _, _, h => h
  | [], _ :: _, _, _, _, hl, _, _ => by simp at hl
  | _ :: _, [], _, _, _, hl, _, _ => by simp at hl
  | b :: m, o :: l, k, a, w, hl, hB, h => by
    simp only [restB, Bool.and_eq_true, Bool.not_eq_true'] at hB
    obtain ⟨⟨rfl, hmu⟩, hB'⟩ := hB
    have hl' : m.length = l.length := by simpa using hl
    simp only [wpLex]
    simp only [wpList] at h
    split
    · rename_i hw
      rw [if_pos hw] at h
      exact h.imp (Oper.wp_mono fun a' w' h' => ⟨fun h => (by rw [hmu] at h; cases h), lex_list m l (k + 1) a' w' hl' hB' h'⟩) id
    · rename_i hw
      rw [if_neg hw] at h
      exact ⟨fun h => (by rw [hmu] at h; cases h), lex_list m l (k + 1) _ w hl' hB' h⟩
end
end Go.Proofs.YtgpgmmkkmoecmaaGreatDoor
