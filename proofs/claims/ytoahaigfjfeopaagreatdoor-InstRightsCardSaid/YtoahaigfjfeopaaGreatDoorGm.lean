/- Texts joined: Pv Pw Was Rc Rh. -/
import Derived.Test.YtoahaigfjfeopaaGreatDoorGk
import Derived.Test.YtoahaigfjfeopaaGreatDoorGl
import Derived.Test.YtoahaigfjfeopaaGreatDoorGi
import Derived.Test.YtoahaigfjfeopaaGreatDoorGg
/- Where a text's tokens stand is told of its mistakes; all else does not hang on it. -/
namespace Go.Proofs.YtoahaigfjfeopaaGreatDoor

def mv (φ : Int → Int) (t : Tok) : Tok := { t with at_ := φ t.at_ }
def mvR {α β : Type} (φ : Int → Int) (F : α → β) : PR α → PR β
  | .error (p, x) => .error (φ p, x)
  | .ok (v, r) => .ok (F v, r.map (mv φ))
theorem stmtQ_split (x : Ins) (ts : List Tok) : stmtQ x ts = if ¬ ((nextQ ts).1.kind = 1 ∧ (0 < wordFrom (nextQ ts).1.text 0 wordsT ∨ (nextQ ts).1.text = varT ∨ (nextQ ts).1.text = softT)) then .error ((nextQ ts).1.at_, 3)
    else match stBody x (nextQ ts).1 (nextQ ts).2 with
      | .error e => .error e
      | .ok (y, r') => match signQ [59] r' with
        | .error e => .error e
        | .ok (_, r2) => .ok (y, r2) := rfl
theorem mv_is {φ : Int → Int} (s : List UInt8) : ∀ ts : List Tok, isQ s (ts.map (mv φ)) = ((isQ s ts).1, (isQ s ts).2.map (mv φ))
  | [] => rfl
  | t :: r => by
    have e : isP (mv φ t) s = isP t s := rfl
    rw [List.map_cons, isQ, isQ, e]
    cases isP t s <;> rfl
section
variable {φ : Int → Int} (h0 : φ 0 = 0)
include h0
theorem mv_default : mv φ default = default := by
  have : (default : Tok).at_ = 0 := rfl
  unfold mv
  rw [this, h0]
  rfl
theorem mv_num (m : Int) : ∀ ts : List Tok, numberQ m (ts.map (mv φ)) = mvR φ (mv φ) (numberQ m ts)
  | [] => by simp [numberQ, mvR, h0]
  | t :: r => by
    simp only [List.map_cons, numberQ, mv]
    split
    · split <;> rfl
    · rfl
theorem mv_sign (s : List UInt8) : ∀ ts : List Tok, signQ s (ts.map (mv φ)) = mvR φ id (signQ s ts)
  | [] => by simp [signQ, mvR, h0]
  | t :: r => by
    have e : isP (mv φ t) s = isP t s := rfl
    rw [List.map_cons, signQ, signQ, e]
    cases isP t s <;> rfl
theorem mv_next (ts : List Tok) : nextQ (ts.map (mv φ)) = (mv φ (nextQ ts).1, (nextQ ts).2.map (mv φ)) := by
  cases ts with
  | nil => simp [nextQ, mv_default h0]
  | cons t r =>
    simp only [List.map_cons, nextQ]
    by_cases h : t.kind = 4
    · rw [if_pos h, if_pos (show (mv φ t).kind = 4 from h)]; rfl
    · rw [if_neg h, if_neg (show ¬ (mv φ t).kind = 4 from h)]
theorem mv_first (ts : List Tok) : nth default (ts.map (mv φ)) 0 = mv φ (nth default ts 0) := by
  cases ts with
  | nil => exact (mv_default h0).symm
  | cons t r => rfl
theorem mv_dom : ∀ (ts : List Tok) (d : List Int), domQ (ts.map (mv φ)) d = mvR φ id (domQ ts d)
  | [], d => by simp [domQ, mvR, h0]
  | t :: r, d => by
    have hn := mv_num h0 1000000 (t :: r)
    rw [List.map_cons] at hn ⊢
    rw [domQ, domQ, hn]
    by_cases h1 : d.length ≠ 0 ∧ t.kind ≠ 2
    · rw [if_pos h1, if_pos (show d.length ≠ 0 ∧ (mv φ t).kind ≠ 2 from h1)]; rfl
    · rw [if_neg h1, if_neg (show ¬ (d.length ≠ 0 ∧ (mv φ t).kind ≠ 2) from h1)]
      cases numberQ 1000000 (t :: r) with
      | error p => obtain ⟨p, x⟩ := p; rfl
      | ok p =>
        simp only [mvR]
        by_cases h2 : 16 ≤ d.length
        · rw [if_pos h2, if_pos h2]; rfl
        · rw [if_neg h2, if_neg h2]
          by_cases h3 : d.length ≠ 0 ∧ t.n ≤ lastI d
          · rw [if_pos h3, if_pos (show d.length ≠ 0 ∧ (mv φ t).n ≤ lastI d from h3)]; rfl
          · rw [if_neg h3, if_neg (show ¬ (d.length ≠ 0 ∧ (mv φ t).n ≤ lastI d) from h3)]
            exact mv_dom r _
theorem mv_var (nd : Nat) (l : List Int) : ∀ ts : List Tok, varQ nd l (ts.map (mv φ)) = mvR φ id (varQ nd l ts)
  | [] => by simp [varQ, mvR, h0]
  | t :: r => by
    have hn := mv_num h0 1000000000000 (t :: r)
    rw [List.map_cons] at hn ⊢
    rw [varQ, varQ, hn]
    cases numberQ 1000000000000 (t :: r) with
    | error p => obtain ⟨p, x⟩ := p; rfl
    | ok p =>
      simp only [mvR]
      by_cases h2 : 6 ≤ l.length
      · rw [if_pos h2, if_pos h2]; rfl
      · rw [if_neg h2, if_neg h2]
        by_cases h3 : 0 ≤ t.n ∧ t.n < nd ∧ (l.length = 0 ∨ lastI l < t.n)
        · rw [if_pos h3, if_pos (show 0 ≤ (mv φ t).n ∧ (mv φ t).n < nd ∧ (l.length = 0 ∨ lastI l < (mv φ t).n) from h3)]; rfl
        · rw [if_neg h3, if_neg (show ¬ (0 ≤ (mv φ t).n ∧ (mv φ t).n < nd ∧ (l.length = 0 ∨ lastI l < (mv φ t).n)) from h3)]; rfl
theorem mv_scope (nd : Nat) : ∀ (ts : List Tok) (l : List Int), scopeQ nd (ts.map (mv φ)) l = mvR φ id (scopeQ nd ts l)
  | [], l => by simp [scopeQ, mvR, h0]
  | t :: r, l => by
    have hn := mv_var h0 nd l (t :: r)
    rw [List.map_cons] at hn ⊢
    rw [scopeQ, scopeQ, hn]
    by_cases h1 : l.length ≠ 0 ∧ t.kind ≠ 2
    · rw [if_pos h1, if_pos (show l.length ≠ 0 ∧ (mv φ t).kind ≠ 2 from h1)]; rfl
    · rw [if_neg h1, if_neg (show ¬ (l.length ≠ 0 ∧ (mv φ t).kind ≠ 2) from h1)]
      cases varQ nd l (t :: r) with
      | error p => obtain ⟨p, x⟩ := p; rfl
      | ok p => obtain ⟨l', p⟩ := p; exact mv_scope nd r l'
theorem mv_vals (doms : List (List Int)) : ∀ (scope : List Int) (ts : List Tok), valsQ doms scope (ts.map (mv φ)) = mvR φ id (valsQ doms scope ts)
  | [], ts => rfl
  | v :: ss, ts => by
    rw [valsQ, valsQ, mv_num h0]
    cases numberQ 1000000 ts with
    | error p => obtain ⟨p, x⟩ := p; rfl
    | ok p =>
      obtain ⟨t, r⟩ := p
      simp only [mvR]
      by_cases h1 : t.n ∈ nth [] doms v.toNat
      · rw [if_pos h1, if_pos (show (mv φ t).n ∈ nth [] doms v.toNat from h1), mv_vals doms ss r]
        cases valsQ doms ss r with
        | error p => obtain ⟨p, x⟩ := p; rfl
        | ok p => obtain ⟨ns, r'⟩ := p; rfl
      · rw [if_neg h1, if_neg (show ¬ (mv φ t).n ∈ nth [] doms v.toNat from h1)]; rfl
theorem mv_row (doms : List (List Int)) (scope : List Int) (ahead : List (List Int)) (ts : List Tok) : rowQ doms scope ahead (ts.map (mv φ)) = mvR φ id (rowQ doms scope ahead ts) := by
  rw [rowQ, rowQ, mv_vals h0, mv_first h0]
  cases valsQ doms scope ts with
  | error p => obtain ⟨p, x⟩ := p; rfl
  | ok p =>
    obtain ⟨t, r⟩ := p
    simp only [mvR, id]
    split <;> rfl
theorem mv_rows (doms : List (List Int)) (scope : List Int) : ∀ (n : Nat) (ahead : List (List Int)) (ts : List Tok), rowsQ doms scope n ahead (ts.map (mv φ)) = mvR φ id (rowsQ doms scope n ahead ts)
  | 0, _, _ => by simp [rowsQ, mvR, h0]
  | n + 1, ahead, ts => by
    rw [rowsQ, rowsQ, mv_row h0]
    cases rowQ doms scope ahead ts with
    | error p => obtain ⟨p, x⟩ := p; rfl
    | ok p =>
      obtain ⟨rows, r⟩ := p
      simp only [mvR, id, mv_is]
      split
      · exact mv_rows doms scope n _ _
      · rfl
theorem mv_terms (nd : Nat) : ∀ (n : Nat) (args scope : List Int) (ts : List Tok), termsQ nd n args scope (ts.map (mv φ)) = mvR φ id (termsQ nd n args scope ts)
  | 0, _, _, _ => by simp [termsQ, mvR, h0]
  | n + 1, args, scope, ts => by
    rw [termsQ, termsQ, mv_num h0]
    cases numberQ 1000000 ts with
    | error p => obtain ⟨p, x⟩ := p; rfl
    | ok p =>
      obtain ⟨t, r⟩ := p
      simp only [mvR]
      by_cases h1 : t.n = 0
      · rw [if_pos h1, if_pos (show (mv φ t).n = 0 from h1)]; rfl
      · rw [if_neg h1, if_neg (show ¬ (mv φ t).n = 0 from h1), mv_var h0]
        cases varQ nd scope r with
        | error p => obtain ⟨p, x⟩ := p; rfl
        | ok p =>
          obtain ⟨sc, r'⟩ := p
          simp only [mvR, id, mv_is]
          split
          · exact mv_terms nd n _ _ _
          · rfl
theorem mv_linear (nd : Nat) (ts : List Tok) : linearQ nd (ts.map (mv φ)) = mvR φ id (linearQ nd ts) := by
  rw [linearQ, linearQ, mv_terms h0, List.length_map]
  cases termsQ nd (ts.length + 1) [] [] ts with
  | error p => obtain ⟨p, x⟩ := p; rfl
  | ok p =>
    obtain ⟨⟨args, scope⟩, r⟩ := p
    simp only [mvR, id]
    rw [mv_sign h0]
    cases signQ [58] r with
    | error p => obtain ⟨p, x⟩ := p; rfl
    | ok p =>
      obtain ⟨u, r1⟩ := p
      simp only [mvR, mv_next h0]
      by_cases h1 : (nextQ r1).1.kind = 1 ∧ 0 ≤ wordFrom (nextQ r1).1.text 0 howsT
      · rw [if_pos h1, if_pos (show (mv φ (nextQ r1).1).kind = 1 ∧ 0 ≤ wordFrom (mv φ (nextQ r1).1).text 0 howsT from h1), mv_num h0]
        cases numberQ 1000000 (nextQ r1).2 with
        | error p => obtain ⟨p, x⟩ := p; rfl
        | ok p => obtain ⟨w, r2⟩ := p; rfl
      · rw [if_neg h1, if_neg (show ¬ ((mv φ (nextQ r1).1).kind = 1 ∧ 0 ≤ wordFrom (mv φ (nextQ r1).1).text 0 howsT) from h1)]; rfl
theorem mv_table (doms : List (List Int)) (scope : List Int) (ts : List Tok) : tableQ doms scope (ts.map (mv φ)) = mvR φ id (tableQ doms scope ts) := by
  rw [tableQ, tableQ, mv_sign h0]
  cases signQ [58] ts with
  | error p => obtain ⟨p, x⟩ := p; rfl
  | ok p =>
    obtain ⟨u, r⟩ := p
    simp only [mvR, mv_first h0, List.length_map]
    by_cases h1 : (nth default r 0).kind = 3 ∧ (nth default r 0).text = [59]
    · rw [if_pos h1, if_pos (show (mv φ (nth default r 0)).kind = 3 ∧ (mv φ (nth default r 0)).text = [59] from h1)]; rfl
    · rw [if_neg h1, if_neg (show ¬ ((mv φ (nth default r 0)).kind = 3 ∧ (mv φ (nth default r 0)).text = [59]) from h1)]
      exact mv_rows h0 doms scope _ _ _
theorem mv_hard (doms : List (List Int)) (kind : Int) (ts : List Tok) : hardQ doms kind (ts.map (mv φ)) = mvR φ id (hardQ doms kind ts) := by
  rw [hardQ, hardQ]
  by_cases h6 : kind = 6
  · rw [if_pos h6, if_pos h6, mv_linear h0]
    cases linearQ doms.length ts with
    | error p => obtain ⟨p, x⟩ := p; rfl
    | ok p => obtain ⟨⟨a, s⟩, r⟩ := p; rfl
  · rw [if_neg h6, if_neg h6, mv_scope h0]
    cases scopeQ doms.length ts [] with
    | error p => obtain ⟨p, x⟩ := p; rfl
    | ok p =>
      obtain ⟨scope, r⟩ := p
      simp only [mvR, id]
      by_cases h2 : kind ≤ 2
      · rw [if_pos h2, if_pos h2, mv_table h0]
        cases tableQ doms scope r with
        | error p => obtain ⟨p, x⟩ := p; rfl
        | ok p => obtain ⟨rows, r'⟩ := p; rfl
      · rw [if_neg h2, if_neg h2]
theorem mv_costs (doms : List (List Int)) (scope : List Int) : ∀ (n : Nat) (rows : List (List Int)) (costs : List Int) (ts : List Tok), costsQ doms scope n rows costs (ts.map (mv φ)) = mvR φ id (costsQ doms scope n rows costs ts)
  | 0, _, _, _ => by simp [costsQ, mvR, h0]
  | n + 1, rows, costs, ts => by
    rw [costsQ, costsQ, mv_is]
    simp only
    by_cases h1 : (isQ [44] ts).1 = true
    · rw [if_pos h1, if_pos h1, mv_row h0]
      cases rowQ doms scope rows (isQ [44] ts).2 with
      | error p => obtain ⟨p, x⟩ := p; rfl
      | ok p =>
        obtain ⟨rows', r⟩ := p
        simp only [mvR, id]
        rw [mv_num h0]
        cases numberQ 1000000000000 r with
        | error p => obtain ⟨p, x⟩ := p; rfl
        | ok p => obtain ⟨t, r'⟩ := p; exact mv_costs doms scope n _ _ _
    · rw [if_neg h1, if_neg h1]; rfl
theorem mv_soft (doms : List (List Int)) (ts : List Tok) : softQ doms (ts.map (mv φ)) = mvR φ id (softQ doms ts) := by
  rw [softQ, softQ, mv_scope h0]
  cases scopeQ doms.length ts [] with
  | error p => obtain ⟨p, x⟩ := p; rfl
  | ok p =>
    obtain ⟨scope, r⟩ := p
    simp only [mvR, id]
    rw [mv_sign h0]
    cases signQ [58] r with
    | error p => obtain ⟨p, x⟩ := p; rfl
    | ok p =>
      obtain ⟨u, r1⟩ := p
      simp only [mvR]
      rw [mv_num h0]
      cases numberQ 1000000000000 r1 with
      | error p => obtain ⟨p, x⟩ := p; rfl
      | ok p =>
        obtain ⟨t, r2⟩ := p
        simp only [mvR]
        rw [List.length_map, mv_costs h0]
        cases costsQ doms scope (r2.length + 1) [] [] r2 with
        | error p => obtain ⟨p, x⟩ := p; rfl
        | ok p => obtain ⟨⟨a, b⟩, r3⟩ := p; rfl
theorem mv_body (x : Ins) (t : Tok) (r : List Tok) : stBody x (mv φ t) (r.map (mv φ)) = mvR φ id (stBody x t r) := by
  have ht : (mv φ t).text = t.text := rfl
  rw [stBody, stBody, ht]
  by_cases hv : t.text = varT
  · rw [if_pos hv, if_pos hv]
    split
    · rfl
    · rw [mv_dom h0]
      cases domQ r [] with
      | error p => obtain ⟨p, x⟩ := p; rfl
      | ok p => obtain ⟨d, r'⟩ := p; rfl
  · rw [if_neg hv, if_neg hv]
    by_cases hs : t.text = softT
    · rw [if_pos hs, if_pos hs]
      split
      · rfl
      · rw [mv_soft h0]
        cases softQ x.doms r with
        | error p => obtain ⟨p, x⟩ := p; rfl
        | ok p => obtain ⟨d, r'⟩ := p; rfl
    · rw [if_neg hs, if_neg hs]
      split
      · rfl
      · rw [mv_hard h0]
        cases hardQ x.doms (wordFrom t.text 0 wordsT) r with
        | error p => obtain ⟨p, x⟩ := p; rfl
        | ok p => obtain ⟨d, r'⟩ := p; rfl
theorem mv_stmt (x : Ins) (ts : List Tok) : stmtQ x (ts.map (mv φ)) = mvR φ id (stmtQ x ts) := by
  rw [stmtQ_split, stmtQ_split, mv_next h0]
  simp only
  by_cases hg : (nextQ ts).1.kind = 1 ∧ (0 < wordFrom (nextQ ts).1.text 0 wordsT ∨ (nextQ ts).1.text = varT ∨ (nextQ ts).1.text = softT)
  · rw [if_neg (fun h => h hg), if_neg (fun h => h hg), mv_body h0]
    cases stBody x (nextQ ts).1 (nextQ ts).2 with
    | error p => obtain ⟨p, x⟩ := p; rfl
    | ok p =>
      obtain ⟨y, r⟩ := p
      simp only [mvR, id]
      rw [mv_sign h0]
      cases signQ [59] r with
      | error p => obtain ⟨p, x⟩ := p; rfl
      | ok p => obtain ⟨u, r2⟩ := p; rfl
  · rw [if_pos hg, if_pos (show ¬ ((mv φ (nextQ ts).1).kind = 1 ∧ (0 < wordFrom (mv φ (nextQ ts).1).text 0 wordsT ∨ (mv φ (nextQ ts).1).text = varT ∨ (mv φ (nextQ ts).1).text = softT)) from hg)]; rfl
theorem mv_stmts : ∀ (n : Nat) (x : Ins) (ts : List Tok), stmtsQ n x (ts.map (mv φ)) = match stmtsQ n x ts with
    | .error (p, e) => .error (φ p, e)
    | .ok y => .ok y
  | 0, _, _ => by simp [stmtsQ, h0]
  | n + 1, x, ts => by
    rw [stmtsQ, stmtsQ, mv_first h0, mv_stmt h0]
    by_cases h4 : (nth default ts 0).kind = 4
    · rw [if_pos h4, if_pos (show (mv φ (nth default ts 0)).kind = 4 from h4)]
    · rw [if_neg h4, if_neg (show ¬ (mv φ (nth default ts 0)).kind = 4 from h4)]
      cases stmtQ x ts with
      | error p => obtain ⟨p, x⟩ := p; rfl
      | ok p => obtain ⟨y, r⟩ := p; exact mv_stmts n y r
end
end Go.Proofs.YtoahaigfjfeopaaGreatDoor

/- What is wrong is told where it is, whatever comes behind it; what is right behind what is right is both. -/
namespace Go.Proofs.YtoahaigfjfeopaaGreatDoor

theorem run_stop (p : UInt8 → Bool) (hp : p 10 = false) (s : List UInt8) : ∀ l : List UInt8, runP p (l ++ 10 :: s) = runP p l
  | [] => by
    rw [List.nil_append]
    show runP p (10 :: s) = 0
    rw [runP.eq_2, if_neg (by rw [hp]; decide)]
  | c :: r => by
    rw [List.cons_append, runP, runP, run_stop p hp s r]
theorem left_stop (l s : List UInt8) (hl : l ≠ []) : leftP (l ++ 10 :: s) = leftP l := by
  cases l with
  | nil => exact absurd rfl hl
  | cons c r =>
    have := run_stop notEol (by decide) s (c :: r)
    rw [List.cons_append] at this ⊢
    rw [leftP, leftP, this]
theorem take_run (p : UInt8 → Bool) (l x : List UInt8) (h : runP p (l ++ x) = runP p l) : (l ++ x).take (runP p (l ++ x)) = l.take (runP p l) := by
  rw [h, List.take_append_of_le_length (runP_le p l)]
theorem num_stop (l s : List UInt8) (hl : l ≠ []) : numP (l ++ 10 :: s) = numP l := by
  have hh : (l ++ 10 :: s).head? = l.head? := head_app hl
  unfold numP
  dsimp only
  rw [hh]
  have hm : (if l.head? = some 45 then 1 else 0) ≤ l.length := by
    have := List.length_pos_iff.2 hl
    split <;> omega
  generalize (if l.head? = some 45 then 1 else 0) = m at hm
  have hd : (l ++ 10 :: s).drop m = l.drop m ++ 10 :: s := List.drop_append_of_le_length hm
  have ht : ((l ++ 10 :: s).drop m).take (runP isDigit ((l ++ 10 :: s).drop m)) = (l.drop m).take (runP isDigit (l.drop m)) := by
    rw [hd]
    exact take_run isDigit _ _ (run_stop isDigit (by decide) s _)
  rw [ht]
  have hle : ((l.drop m).take (runP isDigit (l.drop m))).length ≤ l.length - m := by rw [List.length_take, List.length_drop]; omega
  generalize (l.drop m).take (runP isDigit (l.drop m)) = ds at hle
  rw [List.take_append_of_le_length (by omega)]
theorem tok_stop (l s : List UInt8) (hl : l ≠ []) : tokenP (l ++ 10 :: s) = tokenP l := by
  cases l with
  | nil => exact absurd rfl hl
  | cons c r =>
    have h1 := run_stop isLetter (by decide) s (c :: r)
    have h2 := take_run isLetter (c :: r) (10 :: s) h1
    have h3 := num_stop (c :: r) s (by simp)
    rw [List.cons_append] at h1 h2 h3 ⊢
    rw [tokenP, tokenP, h2, h1, h3]
/-- The tokens of a text, a line end behind it, and another text. -/
theorem scan_app (s : List UInt8) : ∀ (n : Nat) (l : List UInt8) (a : Nat), l.length ≤ n → match scanQ a l with
    | .error e => scanQ a (l ++ 10 :: s) = .error e
    | .ok ts => ∃ c E, ts = c ++ [E] ∧ scanQ a (l ++ 10 :: s) = preP c (scanQ (a + l.length + 1) s) := by
  intro n
  induction n with
  | zero =>
    intro l a hl
    obtain rfl : l = [] := List.eq_nil_of_length_eq_zero (by omega)
    rw [scanQ_nil]
    refine ⟨[], _, rfl, ?_⟩
    rw [List.nil_append, scanQ_left a (10 :: s) (by simp) (show 0 < 1 by decide)]
    show scanQ (a + 1) s = _
    cases scanQ (a + 1) s <;> rfl
  | succ n ih =>
    intro l a hl
    by_cases hn : l = []
    · subst hn
      rw [scanQ_nil]
      refine ⟨[], _, rfl, ?_⟩
      rw [List.nil_append, scanQ_left a (10 :: s) (by simp) (show 0 < 1 by decide)]
      show scanQ (a + 1) s = _
      cases scanQ (a + 1) s <;> rfl
    · have hne : l ++ 10 :: s ≠ [] := by simp
      by_cases h0 : 0 < leftP l
      · have hle := leftP_le l
        have := ih (l.drop (leftP l)) (a + leftP l) (by rw [List.length_drop]; omega)
        rw [scanQ_left a l hn h0, scanQ_left a (l ++ 10 :: s) hne (by rw [left_stop l s hn]; exact h0), left_stop l s hn, List.drop_append_of_le_length hle]
        rw [List.length_drop, show a + leftP l + (l.length - leftP l) + 1 = a + l.length + 1 by omega] at this
        exact this
      · have h0' : ¬ 0 < leftP (l ++ 10 :: s) := by rw [left_stop l s hn]; exact h0
        cases ht : tokenP l with
        | error e =>
          rw [scanQ_bad a l hn h0 ht]
          exact scanQ_bad a _ hne h0' ((tok_stop l s hn).trans ht)
        | ok p =>
          obtain ⟨t, k⟩ := p
          have hk := tokenP_size ht
          have := ih (l.drop k) (a + k) (by rw [List.length_drop]; omega)
          rw [scanQ_tok a l hn h0 ht, scanQ_tok a (l ++ 10 :: s) hne h0' ((tok_stop l s hn).trans ht), List.drop_append_of_le_length hk.2]
          rw [List.length_drop, show a + k + (l.length - k) + 1 = a + l.length + 1 by omega] at this
          cases hq : scanQ (a + k) (l.drop k) with
          | error e =>
            rw [hq] at this
            simp only [this]
          | ok ts =>
            rw [hq] at this
            obtain ⟨c, E, rfl, h2⟩ := this
            simp only [h2]
            refine ⟨{ t with at_ := a } :: c, E, rfl, ?_⟩
            cases scanQ (a + l.length + 1) s <;> rfl
/-- The tokens do not hang on where a text stands, but for their places. -/
theorem scan_shift : ∀ (f a : Nat) (l : List UInt8), scanP f (a + 1) l = match scanP f a l with
    | .error (p, x) => .error (p + 1, x)
    | .ok ts => .ok (ts.map (mv (· + 1)))
  | 0, _, _ => rfl
  | f + 1, a, l => by
    rw [scanP, scanP]
    split
    · rfl
    · split
      · rw [show a + 1 + leftP l = a + leftP l + 1 by omega, scan_shift f (a + leftP l)]
      · cases tokenP l with
        | error e => rfl
        | ok p =>
          obtain ⟨t, k⟩ := p
          simp only
          rw [show a + 1 + k = a + k + 1 by omega, scan_shift f (a + k)]
          cases scanP f (a + k) (l.drop k) with
          | error e => rfl
          | ok ts => rfl
theorem allP_q (l : List UInt8) (h : l.length ≤ 100000) : allP l = scanQ 0 l := by
  rw [allP, if_neg (by omega)]; rfl
theorem back_shift (ts : List Tok) (h : ∀ t ∈ ts, 0 ≤ t.at_) : (ts.map (mv (· + 1))).map (mv fun p => if p = 0 then 0 else p - 1) = ts := by
  rw [List.map_map]
  conv => rhs; rw [← List.map_id ts]
  refine List.map_congr_left fun t ht => ?_
  have := h t ht
  obtain ⟨k, s, n, p⟩ := t
  have hp : 0 ≤ p := this
  show (⟨k, s, n, if p + 1 = 0 then 0 else p + 1 - 1⟩ : Tok) = ⟨k, s, n, p⟩
  rw [if_neg (by omega), show p + 1 - 1 = p by omega]
theorem places {a : Nat} {l : List UInt8} {ts : List Tok} (h : scanQ a l = .ok ts) : ∃ (c : List Tok) (E : Tok), ts = c ++ [E] ∧ E.kind = 4 ∧ E.at_ = (a : Int) + l.length ∧ AllOk ts ∧ (∀ t ∈ c, ¬ t.kind = 4 ∧ (a : Int) ≤ t.at_ ∧ t.at_ < (a : Int) + l.length) := by
  obtain ⟨c, E, h1, h2, h3, h4, h5, _⟩ := scan_ok _ _ _ _ (Nat.lt_succ_self _) h
  exact ⟨c, E, h1, h2, h3, by rw [h1]; exact h4, h5⟩
theorem bad_places {a : Nat} {l : List UInt8} {p : Nat} {x : Int} (h : scanQ a l = .error (p, x)) : (x = 2 ∨ x = 4) ∧ a ≤ p ∧ p < a + l.length :=
  scan_err _ _ _ _ _ (Nat.lt_succ_self _) h
/-- A line end ahead: all is one place behind. -/
theorem parse_shift {l : List UInt8} {p x : Int} (hl : l.length ≤ 90000) (h : parseP l = .error (p, x)) : parseP (10 :: l) = .error (p + 1, x) := by
  have e1 : allP (10 :: l) = scanQ 1 l := by
    rw [allP_q _ (by simp; omega), scanQ_left 0 (10 :: l) (by simp) (show 0 < 1 by decide)]; rfl
  have e2 : scanQ 1 l = match scanQ 0 l with
    | .error (p, x) => .error (p + 1, x)
    | .ok ts => .ok (ts.map (mv (· + 1))) := scan_shift _ 0 l
  unfold parseP at h ⊢
  rw [allP_q _ (by omega)] at h
  rw [e1, e2]
  cases hq : scanQ 0 l with
  | error e =>
    obtain ⟨p', x'⟩ := e
    simp only [hq] at h ⊢
    injection h with h
    injection h with h1 h2
    subst h1 h2
    simp
  | ok ts =>
    simp only [hq] at h ⊢
    obtain ⟨c, E, rfl, hE, hEa, _, hc⟩ := places hq
    have hpos : ∀ t ∈ c ++ [E], 0 ≤ t.at_ := fun t ht => by
      rcases List.mem_append.1 ht with ht | ht
      · have := (hc t ht).2.1; omega
      · rw [List.mem_singleton.1 ht]; omega
    have hs := mv_stmts (φ := fun p => if p = 0 then 0 else p - 1) (by simp) ((c ++ [E]).length + 1) ⟨[], [], []⟩ ((c ++ [E]).map (mv (· + 1)))
    rw [back_shift _ hpos, h] at hs
    rw [List.length_map]
    have hz := loc_stmts ((c ++ [E]).length + 1) ⟨[], [], []⟩ (c.map (mv (· + 1))) (mv (· + 1) E) hE (fun t ht => by
      obtain ⟨u, hu, rfl⟩ := List.mem_map.1 ht
      exact (hc u hu).1) (by simp; omega)
    rw [LocZ, show c.map (mv (· + 1)) ++ [mv (· + 1) E] = (c ++ [E]).map (mv (· + 1)) by simp] at hz
    cases hq2 : stmtsQ ((c ++ [E]).length + 1) ⟨[], [], []⟩ ((c ++ [E]).map (mv (· + 1))) with
    | ok y => rw [hq2] at hs; cases hs
    | error e =>
      obtain ⟨p', x'⟩ := e
      rw [hq2] at hs hz
      simp only at hs
      injection hs with hs
      injection hs with h1 h2
      have hp' : 1 ≤ p' := by
        rcases hz.2 with h3 | ⟨⟨t, ht, h3⟩, _⟩
        · have : (mv (· + 1) E).at_ = E.at_ + 1 := rfl
          omega
        · obtain ⟨u, hu, rfl⟩ := List.mem_map.1 ht
          have : (mv (· + 1) u).at_ = u.at_ + 1 := rfl
          have := hc u hu
          omega
      rw [if_neg (by omega)] at h1
      rw [h2, h1]
      congr 2
      omega
theorem fold_grows : ∀ (sts : List St) (x : Ins), x.doms.length ≤ (sts.foldl add x).doms.length ∧ x.hard.length ≤ (sts.foldl add x).hard.length ∧ x.soft.length ≤ (sts.foldl add x).soft.length
  | [], x => ⟨Nat.le_refl _, Nat.le_refl _, Nat.le_refl _⟩
  | st :: sts, x => by
    have := fold_grows sts (add x st)
    rw [List.foldl_cons]
    cases st <;> simp only [add, List.length_append, List.length_singleton] at this ⊢ <;> omega
/-- What is told of a text, a line end behind it and another text. -/
theorem behind (a b : List UInt8) (ha : a.length ≤ 1000) (hb : b.length ≤ 1000) : match parseP (a ++ [10]) with
    | .error (p, e) => p = a.length + 1 ∨ ∃ q f, parseP (a ++ 10 :: b) = .error (q, f) ∧ (f = e ∧ q = p ∨ f = 2 ∨ f = 4)
    | .ok x => match parseP (a ++ 10 :: b) with
      | .error (q, _) => (a.length : Int) < q
      | .ok y => x.doms.length ≤ y.doms.length ∧ x.hard.length ≤ y.hard.length ∧ x.soft.length ≤ y.soft.length := by
  have e1 : allP (a ++ [10]) = scanQ 0 (a ++ [10]) := allP_q _ (by simp; omega)
  have e2 : allP (a ++ 10 :: b) = scanQ 0 (a ++ 10 :: b) := allP_q _ (by simp; omega)
  have h1 := scan_app [] a.length a 0 (Nat.le_refl _)
  have h2 := scan_app b a.length a 0 (Nat.le_refl _)
  cases hq : scanQ 0 a with
  | error e =>
    obtain ⟨p, x⟩ := e
    rw [hq] at h1 h2
    simp only at h1 h2
    have hp := bad_places hq
    have r1 : parseP (a ++ [10]) = .error (p, x) := by unfold parseP; rw [e1, h1]
    have r2 : parseP (a ++ 10 :: b) = .error (p, x) := by unfold parseP; rw [e2, h2]
    rw [r1]
    exact .inr ⟨p, x, r2, .inl ⟨rfl, rfl⟩⟩
  | ok ts =>
    rw [hq] at h1 h2
    obtain ⟨c, E0, rfl, h1⟩ := h1
    obtain ⟨c', E0', hcc, h2⟩ := h2
    have : c = c' := (List.append_inj_left' hcc rfl)
    subst this
    obtain ⟨c1, E1, hc1, _, _, _, hc⟩ := places hq
    have : c1 = c := (List.append_inj_left' hc1.symm rfl)
    subst this
    rw [scanQ_nil] at h1
    simp only [preP] at h1
    have hsplit : parseP (a ++ [10]) = stmtsQ ((c1 ++ [(⟨4, [], 0, ((0 + a.length + 1 : Nat) : Int)⟩ : Tok)]).length + 1) ⟨[], [], []⟩ (c1 ++ [⟨4, [], 0, ((0 + a.length + 1 : Nat) : Int)⟩]) := by unfold parseP; rw [e1, h1]
    have hz := loc_stmts ((c1 ++ [(⟨4, [], 0, ((0 + a.length + 1 : Nat) : Int)⟩ : Tok)]).length + 1) ⟨[], [], []⟩ c1 ⟨4, [], 0, ((0 + a.length + 1 : Nat) : Int)⟩ rfl (fun t ht => (hc t ht).1) (by simp; omega)
    rw [LocZ, ← hsplit] at hz
    cases hu : scanQ (0 + a.length + 1) b with
    | error e =>
      obtain ⟨q, f⟩ := e
      have hp := bad_places hu
      rw [hu] at h2
      have r2 : parseP (a ++ 10 :: b) = .error (q, f) := by unfold parseP; rw [e2, h2]; rfl
      rw [r2]
      cases parseP (a ++ [10]) with
      | error e =>
        obtain ⟨p, x⟩ := e
        exact .inr ⟨q, f, rfl, .inr hp.1⟩
      | ok x =>
        simp only
        omega
    | ok us =>
      rw [hu] at h2
      simp only [preP] at h2
      obtain ⟨d, F, rfl, hF, hFa, hok, hd⟩ := places hu
      have r2 : parseP (a ++ 10 :: b) = stmtsQ ((c1 ++ (d ++ [F])).length + 1) ⟨[], [], []⟩ (c1 ++ (d ++ [F])) := by unfold parseP; rw [e2, h2]
      cases hr : parseP (a ++ [10]) with
      | error e =>
        obtain ⟨p, x⟩ := e
        rw [hr] at hz
        rcases hz.2 with h3 | ⟨_, h3⟩
        · exact .inl (by rw [h3]; simp)
        · exact .inr ⟨p, x, by rw [r2]; exact h3 (d ++ [F]) (by simp) _ (by simp), .inl ⟨rfl, rfl⟩⟩
      | ok x =>
        rw [hr] at hz
        obtain ⟨n'', h3, h4⟩ := hz (d ++ [F]) (by simp) ((c1 ++ (d ++ [F])).length + 1) (by simp)
        rw [r2, h4]
        simp only
        have hy := loc_stmts n'' x d F hF (fun t ht => (hd t ht).1) (by simp at h3; omega)
        rw [LocZ] at hy
        cases hr2 : stmtsQ n'' x (d ++ [F]) with
        | error e =>
          obtain ⟨q, f⟩ := e
          rw [hr2] at hy
          simp only
          rcases hy.2 with h5 | ⟨⟨t, ht, h5⟩, _⟩
          · omega
          · have := hd t ht; omega
        | ok y =>
          obtain ⟨sts, c2, e, r, rfl, _⟩ := stmtsQ_s _ _ _ _ hok (by simp) hr2
          exact fold_grows sts x
end Go.Proofs.YtoahaigfjfeopaaGreatDoor

/- arboristlaw06.InstBehind. -/
namespace Go.Proofs.YtoahaigfjfeopaaGreatDoor
open Go.RowKit
attribute [local irreducible] wpStill wpLex Calls

theorem codeP_err {r : Except (Int × Int) Ins} {q f : Int} (h : r = .error (q, f)) : codeP r = (q, f) := by rw [h]; rfl
set_option maxRecDepth 100000 in
set_option maxHeartbeats 8000000 in
theorem behind_law (sa sb : ByteArray) (w : World) (hE : Env w) :
    Calls Tryz.prog 7 #[.string sa, .string sb] w fun e w' => e = .returned (.bool true) ∧ Below w.heap.size w w' := by
  have HS := Lib.hid (shown_any w hE)
  have HE := Lib.hid hE
  have hma : (min (sa.size : Int) 1000).toNat ≤ sa.size := by omega
  have hma0 : 0 ≤ min (sa.size : Int) 1000 := by omega
  have hmb : (min (sb.size : Int) 1000).toNat ≤ sb.size := by omega
  have hmb0 : 0 ≤ min (sb.size : Int) 1000 := by omega
  clear hE
  go_enter Tryz.func7, Tryz.ntmps7
  go_wp2_with (go_at_call 11; refine HS.out.mono ?_; rintro e w1 ⟨rfl, hb⟩; (have HB1 := Lib.hid hb); clear hb HS)
  have hca := ba_cut sa 1000
  have hcb := ba_cut sb 1000
  generalize sa.extract 0 (min (sa.size : Int) 1000).toNat = ta at *
  generalize sb.extract 0 (min (sb.size : Int) 1000).toNat = tb at *
  obtain ⟨la, hla, hta⟩ : ∃ l : List UInt8, l.length ≤ 1000 ∧ ta = ⟨l.toArray⟩ := ⟨_, by rw [List.length_take]; omega, hca⟩
  obtain ⟨lb, hlb, htb⟩ : ∃ l : List UInt8, l.length ≤ 1000 ∧ tb = ⟨l.toArray⟩ := ⟨_, by rw [List.length_take]; omega, hcb⟩
  clear hca hcb hma hma0 hmb hmb0
  have hsa : ta.size = la.length := by rw [hta]; exact size_mk _
  have hsb : tb.size = lb.length := by rw [htb]; exact size_mk _
  have T1 : ta ++ ⟨#[10]⟩ = ⟨(la ++ [10]).toArray⟩ := by rw [hta]; exact ba_app _ _
  have T2 : ta ++ ⟨#[10]⟩ ++ tb = ⟨(la ++ 10 :: lb).toArray⟩ := by rw [T1, htb, ba_app]; simp
  have T3 : ⟨#[10]⟩ ++ ta ++ ⟨#[10]⟩ = (⟨(10 :: (la ++ [10])).toArray⟩ : ByteArray) := by
    rw [hta, show (⟨#[10]⟩ : ByteArray) = ⟨[10].toArray⟩ from rfl, ba_app, ba_app]; rfl
  clear hta htb
  have hsa1 : ta.size ≤ 1000 := by omega
  have hsb1 : tb.size ≤ 1000 := by omega
  have hbe := behind la lb hla hlb
  rcases h1 : parseP (la ++ [10]) with ⟨p, x⟩ | y1
  · rw [h1] at hbe
    obtain ⟨hx, hp0, hp1⟩ := parse_wrong h1
    have hb0 : (x != 0) = true := by simpa using hx
    have C1 := Lib.hid (fun W (hb : Below w.heap.size w W) => reads_err _ p x W (HE.out.below hb HE.out.size) (by simp; omega) h1)
    rw [← T1] at C1
    simp only at hbe
    by_cases hpe : p = la.length + 1
    · obtain ⟨q, f, h2⟩ : ∃ q f, codeP (parseP (la ++ 10 :: lb)) = (q, f) := ⟨_, _, rfl⟩
      have C2 := Lib.hid (fun W (hb : Below w.heap.size w W) => reads_code _ q f W (HE.out.below hb HE.out.size) (by simp; omega) h2)
      rw [← T2] at C2
      have hpt : p = (ta.size : Int) + 1 := by rw [hsa]; exact hpe
      clear hbe h1 h2 hx T1 T2 T3 hpe hsa hsb hp0 hp1
      subst hpt
      go_wp2_with (go_at_call 18; refine (C1.out _ HB1.out).mono ?_; rintro e w2 ⟨rfl, hb⟩; (have HB2 := Lib.hid ((below_next HB1.out hb).alloc (below_next HB1.out hb).size (.cells #[.slice none 0 0, .slice none 0 0, .slice none 0 0] 26))); clear hb C1 HB1)
      generalize w2.alloc (.cells #[.slice none 0 0, .slice none 0 0, .slice none 0 0] 26) = W2 at *
      refine (C2.out _ HB2.out).mono ?_
      rintro e w3 ⟨⟨DA, Dn, Dc, HA, Hn, Hc, SA, Sn, Sc, rfl⟩, hb⟩
      have HB3 := Lib.hid ((below_next HB2.out hb).alloc (below_next HB2.out hb).size (.cells #[.slice DA Dn Dc, .slice HA Hn Hc, .slice SA Sn Sc] 26))
      clear hb C2 HB2
      go_wp2_with fail
      go_ret
      exact ⟨rfl, HB3.out⟩
    · have h3 := parse_shift (by simp; omega) h1
      rcases hbe with hbe | ⟨q, f, h2, hbe⟩
      · exact absurd hbe hpe
      · have C2 := Lib.hid (fun W (hb : Below w.heap.size w W) => reads_code _ q f W (HE.out.below hb HE.out.size) (by simp; omega) (codeP_err h2))
        have C3 := Lib.hid (fun W (hb : Below w.heap.size w W) => reads_err _ (p + 1) x W (HE.out.below hb HE.out.size) (by simp; omega) h3)
        rw [← T2] at C2
        rw [← T3] at C3
        have hpt : (p == (ta.size : Int) + 1) = false := by simp; omega
        have hp2 : p ≤ 1001 := by simp at hp1; omega
        clear h1 h2 h3 hx T1 T2 T3 hpe hsa hsb hp1
        by_cases hfx : f = x
        · subst hfx
          by_cases hqp : q = p
          · subst hqp
            clear hbe
            go_wp2_with (go_at_call 18; refine (C1.out _ HB1.out).mono ?_; rintro e w2 ⟨rfl, hb⟩; (have HB2 := Lib.hid ((below_next HB1.out hb).alloc (below_next HB1.out hb).size (.cells #[.slice none 0 0, .slice none 0 0, .slice none 0 0] 26))); clear hb C1 HB1)
            generalize w2.alloc (.cells #[.slice none 0 0, .slice none 0 0, .slice none 0 0] 26) = W2 at *
            refine (C2.out _ HB2.out).mono ?_
            rintro e w3 ⟨⟨DA, Dn, Dc, HA, Hn, Hc, SA, Sn, Sc, rfl⟩, hb⟩
            have HB3 := Lib.hid ((below_next HB2.out hb).alloc (below_next HB2.out hb).size (.cells #[.slice DA Dn Dc, .slice HA Hn Hc, .slice SA Sn Sc] 26))
            clear hb C2 HB2
            go_wp2_with (go_at_call 18; refine (C3.out _ HB3.out).mono ?_; rintro e w4 ⟨rfl, hb⟩; (have HB4 := Lib.hid ((below_next HB3.out hb).alloc (below_next HB3.out hb).size (.cells #[.slice none 0 0, .slice none 0 0, .slice none 0 0] 26))); clear hb C3 HB3)
            go_ret
            exact ⟨rfl, HB4.out⟩
          · have hqb : (q == p) = false := by simpa using hqp
            have hf : f = 2 ∨ f = 4 := by
              rcases hbe with ⟨_, h⟩ | h
              · exact absurd h hqp
              · exact h
            clear hbe hqp
            rcases hf with rfl | rfl
            · go_wp2_with (go_at_call 18; refine (C1.out _ HB1.out).mono ?_; rintro e w2 ⟨rfl, hb⟩; (have HB2 := Lib.hid ((below_next HB1.out hb).alloc (below_next HB1.out hb).size (.cells #[.slice none 0 0, .slice none 0 0, .slice none 0 0] 26))); clear hb C1 HB1)
              generalize w2.alloc (.cells #[.slice none 0 0, .slice none 0 0, .slice none 0 0] 26) = W2 at *
              refine (C2.out _ HB2.out).mono ?_
              rintro e w3 ⟨⟨DA, Dn, Dc, HA, Hn, Hc, SA, Sn, Sc, rfl⟩, hb⟩
              have HB3 := Lib.hid ((below_next HB2.out hb).alloc (below_next HB2.out hb).size (.cells #[.slice DA Dn Dc, .slice HA Hn Hc, .slice SA Sn Sc] 26))
              clear hb C2 HB2
              go_wp2_with (go_at_call 18; refine (C3.out _ HB3.out).mono ?_; rintro e w4 ⟨rfl, hb⟩; (have HB4 := Lib.hid ((below_next HB3.out hb).alloc (below_next HB3.out hb).size (.cells #[.slice none 0 0, .slice none 0 0, .slice none 0 0] 26))); clear hb C3 HB3)
              go_ret
              exact ⟨rfl, HB4.out⟩
            · go_wp2_with (go_at_call 18; refine (C1.out _ HB1.out).mono ?_; rintro e w2 ⟨rfl, hb⟩; (have HB2 := Lib.hid ((below_next HB1.out hb).alloc (below_next HB1.out hb).size (.cells #[.slice none 0 0, .slice none 0 0, .slice none 0 0] 26))); clear hb C1 HB1)
              generalize w2.alloc (.cells #[.slice none 0 0, .slice none 0 0, .slice none 0 0] 26) = W2 at *
              refine (C2.out _ HB2.out).mono ?_
              rintro e w3 ⟨⟨DA, Dn, Dc, HA, Hn, Hc, SA, Sn, Sc, rfl⟩, hb⟩
              have HB3 := Lib.hid ((below_next HB2.out hb).alloc (below_next HB2.out hb).size (.cells #[.slice DA Dn Dc, .slice HA Hn Hc, .slice SA Sn Sc] 26))
              clear hb C2 HB2
              go_wp2_with (go_at_call 18; refine (C3.out _ HB3.out).mono ?_; rintro e w4 ⟨rfl, hb⟩; (have HB4 := Lib.hid ((below_next HB3.out hb).alloc (below_next HB3.out hb).size (.cells #[.slice none 0 0, .slice none 0 0, .slice none 0 0] 26))); clear hb C3 HB3)
              go_ret
              exact ⟨rfl, HB4.out⟩
        · have hfb : (f == x) = false := by simpa using hfx
          have hf : f = 2 ∨ f = 4 := by
            rcases hbe with ⟨h, _⟩ | h
            · exact absurd h hfx
            · exact h
          clear hbe hfx
          rcases hf with rfl | rfl
          · go_wp2_with (go_at_call 18; refine (C1.out _ HB1.out).mono ?_; rintro e w2 ⟨rfl, hb⟩; (have HB2 := Lib.hid ((below_next HB1.out hb).alloc (below_next HB1.out hb).size (.cells #[.slice none 0 0, .slice none 0 0, .slice none 0 0] 26))); clear hb C1 HB1)
            generalize w2.alloc (.cells #[.slice none 0 0, .slice none 0 0, .slice none 0 0] 26) = W2 at *
            refine (C2.out _ HB2.out).mono ?_
            rintro e w3 ⟨⟨DA, Dn, Dc, HA, Hn, Hc, SA, Sn, Sc, rfl⟩, hb⟩
            have HB3 := Lib.hid ((below_next HB2.out hb).alloc (below_next HB2.out hb).size (.cells #[.slice DA Dn Dc, .slice HA Hn Hc, .slice SA Sn Sc] 26))
            clear hb C2 HB2
            go_wp2_with (go_at_call 18; refine (C3.out _ HB3.out).mono ?_; rintro e w4 ⟨rfl, hb⟩; (have HB4 := Lib.hid ((below_next HB3.out hb).alloc (below_next HB3.out hb).size (.cells #[.slice none 0 0, .slice none 0 0, .slice none 0 0] 26))); clear hb C3 HB3)
            go_ret
            exact ⟨rfl, HB4.out⟩
          · go_wp2_with (go_at_call 18; refine (C1.out _ HB1.out).mono ?_; rintro e w2 ⟨rfl, hb⟩; (have HB2 := Lib.hid ((below_next HB1.out hb).alloc (below_next HB1.out hb).size (.cells #[.slice none 0 0, .slice none 0 0, .slice none 0 0] 26))); clear hb C1 HB1)
            generalize w2.alloc (.cells #[.slice none 0 0, .slice none 0 0, .slice none 0 0] 26) = W2 at *
            refine (C2.out _ HB2.out).mono ?_
            rintro e w3 ⟨⟨DA, Dn, Dc, HA, Hn, Hc, SA, Sn, Sc, rfl⟩, hb⟩
            have HB3 := Lib.hid ((below_next HB2.out hb).alloc (below_next HB2.out hb).size (.cells #[.slice DA Dn Dc, .slice HA Hn Hc, .slice SA Sn Sc] 26))
            clear hb C2 HB2
            go_wp2_with (go_at_call 18; refine (C3.out _ HB3.out).mono ?_; rintro e w4 ⟨rfl, hb⟩; (have HB4 := Lib.hid ((below_next HB3.out hb).alloc (below_next HB3.out hb).size (.cells #[.slice none 0 0, .slice none 0 0, .slice none 0 0] 26))); clear hb C3 HB3)
            go_ret
            exact ⟨rfl, HB4.out⟩
  · rw [h1] at hbe
    have C1 := Lib.hid (fun W (hb : Below w.heap.size w W) => reads_ok _ y1 W (HE.out.below hb HE.out.size) (by simp; omega) h1)
    rw [← T1] at C1
    simp only at hbe
    rcases h2 : parseP (la ++ 10 :: lb) with ⟨q, f⟩ | y2
    · rw [h2] at hbe
      simp only at hbe
      obtain ⟨hx, _, _⟩ := parse_wrong h2
      have hb0 : (f != 0) = true := by simpa using hx
      have hqt : (ta.size : Int) < q := by omega
      have C2 := Lib.hid (fun W (hb : Below w.heap.size w W) => reads_err _ q f W (HE.out.below hb HE.out.size) (by simp; omega) h2)
      rw [← T2] at C2
      clear hbe h1 h2 hx T1 T2 T3 hsa hsb
      go_wp2_with (go_at_call 18; refine (C1.out _ HB1.out).mono ?_; rintro e w2 ⟨⟨DA, Dc, HA, Hc, SA, Sc, rfl, _⟩, hb⟩; (have HX2 := Lib.hid (heap_alloc_new w2 (.cells #[.slice DA y1.doms.length Dc, .slice HA y1.hard.length Hc, .slice SA y1.soft.length Sc] 26))); (have HB2 := Lib.hid ((below_next HB1.out hb).alloc (below_next HB1.out hb).size (.cells #[.slice DA y1.doms.length Dc, .slice HA y1.hard.length Hc, .slice SA y1.soft.length Sc] 26))); clear hb C1 HB1)
      generalize w2.alloc (.cells #[.slice DA y1.doms.length Dc, .slice HA y1.hard.length Hc, .slice SA y1.soft.length Sc] 26) = W2 at *
      refine (C2.out _ HB2.out).mono ?_
      rintro e w3 ⟨rfl, hb⟩
      have HB3 := Lib.hid ((below_next HB2.out hb).alloc (below_next HB2.out hb).size (.cells #[.slice none 0 0, .slice none 0 0, .slice none 0 0] 26))
      clear hb C2 HB2
      go_wp2_with fail
      go_ret
      exact ⟨rfl, HB3.out⟩
    · rw [h2] at hbe
      simp only at hbe
      obtain ⟨hd1, hd2, hd3⟩ := hbe
      have C2 := Lib.hid (fun W (hb : Below w.heap.size w W) => reads_ok _ y2 W (HE.out.below hb HE.out.size) (by simp; omega) h2)
      rw [← T2] at C2
      clear h1 h2 T1 T2 T3 hsa hsb
      go_wp2_with (go_at_call 18; refine (C1.out _ HB1.out).mono ?_; rintro e w2 ⟨⟨DA, Dc, HA, Hc, SA, Sc, rfl, _⟩, hb⟩; (have HX2 := Lib.hid (heap_alloc_new w2 (.cells #[.slice DA y1.doms.length Dc, .slice HA y1.hard.length Hc, .slice SA y1.soft.length Sc] 26))); (have HB2 := Lib.hid ((below_next HB1.out hb).alloc (below_next HB1.out hb).size (.cells #[.slice DA y1.doms.length Dc, .slice HA y1.hard.length Hc, .slice SA y1.soft.length Sc] 26))); clear hb C1 HB1)
      generalize w2.alloc (.cells #[.slice DA y1.doms.length Dc, .slice HA y1.hard.length Hc, .slice SA y1.soft.length Sc] 26) = W2 at *
      refine (C2.out _ HB2.out).mono ?_
      rintro e w3 ⟨⟨DA2, Dc2, HA2, Hc2, SA2, Sc2, rfl, _⟩, hb⟩
      have HX3 := Lib.hid (block_kept (below_alloc1 w3 (.cells #[.slice DA2 y2.doms.length Dc2, .slice HA2 y2.hard.length Hc2, .slice SA2 y2.soft.length Sc2] 26)) (block_kept hb HX2.out))
      have HY3 := Lib.hid (heap_alloc_new w3 (.cells #[.slice DA2 y2.doms.length Dc2, .slice HA2 y2.hard.length Hc2, .slice SA2 y2.soft.length Sc2] 26))
      have HB3 := Lib.hid ((below_next HB2.out hb).alloc (below_next HB2.out hb).size (.cells #[.slice DA2 y2.doms.length Dc2, .slice HA2 y2.hard.length Hc2, .slice SA2 y2.soft.length Sc2] 26))
      clear hb C2 HB2 HX2
      have x0 := cell_at HX3.out (i := 0) rfl
      have x1 := cell_at HX3.out (i := 1) rfl
      have x2 := cell_at HX3.out (i := 2) rfl
      have y0 := cell_at HY3.out (i := 0) rfl
      have y1 := cell_at HY3.out (i := 1) rfl
      have y2 := cell_at HY3.out (i := 2) rfl
      go_wp2_with fail
      go_ret
      exact ⟨ret_bool (by simp; try omega), HB3.out⟩
end Go.Proofs.YtoahaigfjfeopaaGreatDoor

/- From a contract of two arguments, 'true, and what was there stands', to the form's claims. -/
namespace Go.Proofs.YtoahaigfjfeopaaGreatDoor
open Go.ChangeShapes Go.WideShapes Go.ChangeAt Go.RowKit

/-- Two arguments, the answer true: what 'post' asks. -/
theorem post_true2 {H : Type} {enc : TypeId × Value → H} {f : Func} {s : ChangeSpec} {W W' : World} {t u : TypeId} {v0 v1 : Value} {d0 d1 : DataW H} {p0 p1 : List MemPlace}
    (hp : f.params = #[t, u]) (hr : f.resultTypes = #[4]) (hsv : s.vars = []) (hfn : s.fn H [d0, d1] = { results := [.lit (.bool true)], args := [d0, d1] })
    (hrd : Tryz.prog.readableRec t = true) (ht : t < Tryz.prog.types.size) (hrd1 : Tryz.prog.readableRec u = true) (ht1 : u < Tryz.prog.types.size)
    (h0 : DataW.Trod enc Tryz.prog W 0 (fun _ => true) true t v0 d0 p0) (h1 : DataW.Trod enc Tryz.prog W 0 (fun _ => true) true u v1 d1 p1)
    (hW : DataW.Whole enc Tryz.prog f.params.toList s.vars false W #[v0, v1].toList [d0, d1] [] (p0 ++ p1)) (hb : Below W.heap.size W W') :
    s.post enc Tryz.prog f false true false false W #[v0, v1] (.bool true) W' := by
  have hlt : ∀ x ∈ p0 ++ p1, x.block < W.heap.size := fun x hx => by simpa using hW.lt x hx
  refine ⟨[d0, d1], [], p0 ++ p1, [], p0 ++ (p1 ++ []), [], by simpa using hW, ?_, ?_, ?_, hb.frame _, fun h => by cases h⟩
  · rw [hr, show ([d0, d1] ++ [] : List (DataW H)) = [d0, d1] from rfl, hfn]
    exact trodAll_cons_mk (shut_bool Tryz.underlying4 _) trodAll_mk0
  · rw [hp, show ([d0, d1] ++ [] : List (DataW H)) = [d0, d1] from rfl, hfn]
    exact trodAll_cons_mk (Below.trod laid_out hrd ht h0 hb (fun x hx => hlt x (List.mem_append_left _ hx))) (trodAll_cons_mk (Below.trod laid_out hrd1 ht1 h1 hb (fun x hx => hlt x (List.mem_append_right _ hx))) trodAll_mk0)
  · rw [hsv, show ([d0, d1] ++ [] : List (DataW H)) = [d0, d1] from rfl, hfn]
    exact rfl
end Go.Proofs.YtoahaigfjfeopaaGreatDoor

/- THE CARD OF arboristlaw06.InstBehind: its contract, its row, its card. -/
namespace Go.Proofs.YtoahaigfjfeopaaGreatDoor.instBehind
open Go.ChangeShapes Go.WideShapes Go.ChangeAt Go.RowKit

set_option maxRecDepth 100000 in
theorem contract (H : Type) (enc : TypeId × Value → H) (W : World) (base : Nat) (args : Array Value) (ds gs : List (DataW H)) (before : List MemPlace)
    (hval : ∀ (j : Nat) t v, Tryz.f7.params[j]? = some t → args[j]? = some v → Value.okWide Tryz.prog W .any base t v)
    (hW : DataW.Whole enc Tryz.prog Tryz.f7.params.toList Rows.instBehindSpec.vars false W args.toList ds gs before)
    (hsz : (DataW.weightsEach Tryz.prog (Tryz.f7.params.toList ++ []) (ds ++ gs)).all (· ≤ reachBytes) = true) (hL : laidMetH Tryz.prog Rows.instBehindRow.laid W) :
    Calls Tryz.prog 7 args W fun e W' => ∃ v, e = .returned v ∧ Rows.instBehindSpec.post enc Tryz.prog Tryz.f7 false true false false W args v W' := by
  have hW' := hW
  obtain ⟨p, q, hA0, hV, rfl, hfz, hnd⟩ := hW
  have hA : DataW.TrodAll enc Tryz.prog W 0 (fun _ => true) true Tryz.f7.params.toList args.toList ds p := hA0
  rw [Tryz.params7] at hA hval hsz
  obtain ⟨v0, vs0, d0, ds0, p0, q0, hargs, rfl, rfl, h0, r0⟩ := trodAll_cons hA
  obtain ⟨v1, vs1, d1, ds1, p1, q1, hargs1, rfl, rfl, h1, r1⟩ := trodAll_cons r0
  obtain ⟨rfl, rfl, rfl⟩ := trodAll_nil r1
  obtain rfl : args = #[v0, v1] := by cases args; simp_all
  obtain ⟨rfl, rfl⟩ := trodVars_none hV
  simp only [List.append_nil] at hW' hsz
  have h0k := h0
  have h1k := h1
  obtain ⟨n, rfl, rfl, rfl, _⟩ := Go.ChangeMaps.open_string Tryz.underlying9 (hval 0 9 v0 rfl rfl) h0
  obtain ⟨k, rfl, rfl, rfl, _⟩ := Go.ChangeMaps.open_string Tryz.underlying9 (hval 1 9 v1 rfl rfl) h1
  refine (behind_law n k W (env_of_laid hL)).mono fun e W' ⟨he, hg⟩ => ?_
  subst he
  exact ⟨_, rfl, post_true2 Tryz.params7 (by kernel_rfl) rfl rfl (by kernel_rfl) (of_decide_eq_true (by kernel_rfl)) (by kernel_rfl) (of_decide_eq_true (by kernel_rfl)) h0k h1k hW' hg⟩

theorem reads (os : Os) {H : Type} (enc : TypeId × Value → H) : ∃ places, DataW.whole enc Tryz.prog ((World.doorLaid Tryz.prog 200 os).forCall (fun _ _ => 0) ⟨#[], #[.string ⟨#[]⟩, .string ⟨#[]⟩], []⟩).memory Tryz.f7.params.toList Rows.instBehindSpec.vars false #[Value.string ⟨#[]⟩, Value.string ⟨#[]⟩].toList 8 = some ([.lit (.string []), .lit (.string [])], [], places) :=
  ⟨[], by kernel_rfl⟩

set_option maxRecDepth 100000 in
theorem lifted (os : Os) (started : os.Started) (H : Type) (enc : TypeId × Value → H) (F : Stop.Interp) :
    ReturnsInHanded {} Tryz.checked os 7 .any ((OpenSpec.ofChange Rows.instBehindSpec).preRow enc Tryz.prog Tryz.f7 Rows.instBehindRow.domain false Rows.instBehindRow.laid) (((OpenSpec.ofChange Rows.instBehindSpec).at F).post enc Tryz.prog Tryz.f7 false true false false) := by
  obtain ⟨places, hx⟩ := reads os enc
  refine returnsInHanded_of_row (C := Tryz.checked) (s := OpenSpec.ofChange Rows.instBehindSpec) own_knob started (by kernel_rfl) Tryz.func7
    (witness_row_atRef (enc := enc) (C := Tryz.checked) false (World.doorLaid Tryz.prog 200 os) #[.string ⟨#[]⟩, .string ⟨#[]⟩] rfl (by kernel_rfl) (by kernel_rfl) (by kernel_rfl)
      (OpenSpec.preRow_of_cond 8 hx (by kernel_rfl) (fun k hk => by cases hk) (by kernel_rfl) (laid_met os _))) ?_
  intro W base args ds gs before hval hW _ _ hsz hL _ _
  exact contract H enc W base args ds gs before hval hW hsz hL

theorem said : Rows.InstBehindSaid :=
  OpenClaim.holds_of_cond 7 Tryz.f7 rfl rfl rfl rfl rfl rfl rfl ⟨rfl, rfl, rfl, rfl, rfl⟩ rfl rfl rfl rfl rfl (by kernel_rfl) Tryz.func7 (by kernel_rfl)
    (of_decide_eq_true (by kernel_rfl)) (by unfold Func.isWrapper; first | (rw [if_pos (by decide +kernel)]; kernel_rfl) | (rw [if_neg (by decide +kernel)]; exact ⟨rfl, rfl⟩))
    (fun os started H enc _ F => by rw [OpenClaim.pre_eq_preRow]; exact lifted os started H enc F)

theorem plain (f : FuncId) (fn : Func) (hf : Tryz.pinned.checked.prog.funcNamed "arborist/arboristlaw06.InstBehind" = some f) (hfn : Tryz.pinned.checked.prog.funcs[f]? = some fn) :
    true = Tryz.pinned.checked.prog.looks [] ∧ ∀ (j : Nat) t, fn.params[j]? = some t → Tryz.pinned.checked.prog.wantsStandIn t = false := by
  obtain rfl : f = 7 := Option.some.inj ((show Tryz.prog.funcNamed "arborist/arboristlaw06.InstBehind" = some 7 by kernel_rfl).symm.trans hf) |>.symm
  obtain rfl : fn = Tryz.f7 := (Option.some.inj (Tryz.func7.symm.trans hfn)).symm
  refine ⟨by kernel_rfl, fun j t ht => ?_⟩
  rw [Tryz.params7] at ht
  obtain rfl : t = 9 := by simpa using Array.mem_of_getElem? ht
  exact (show Tryz.prog.wantsStandIn 9 = false by kernel_rfl)

theorem card : Rows.InstBehindCardSaid :=
  Claim7.holds_tied_plain_at .later [] _ _ _ _ said (fun _ h => by cases h) (by kernel_rfl) (fun _ h => by cases h) instBehind_row_tie rfl ⟨rfl, rfl⟩ (by kernel_rfl) rfl plain (by kernel_rfl)
end Go.Proofs.YtoahaigfjfeopaaGreatDoor.instBehind
