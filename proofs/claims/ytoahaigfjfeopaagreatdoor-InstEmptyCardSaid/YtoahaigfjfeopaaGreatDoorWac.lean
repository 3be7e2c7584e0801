/- inst.parser: linear. -/
import Derived.Test.YtoahaigfjfeopaaGreatDoorWab
namespace Go.Proofs.YtoahaigfjfeopaaGreatDoor
open Go.RowKit
attribute [local irreducible] wpStill wpLex Calls

theorem termsQ_num {nd n : Nat} {args scope : List Int} {ts : List Tok} {e : Int × Int} (h : numberQ 1000000 ts = .error e) : termsQ nd (n + 1) args scope ts = .error e := by rw [termsQ, h]
theorem termsQ_zero {nd n : Nat} {args scope : List Int} {ts : List Tok} {t : Tok} {r : List Tok} (h : numberQ 1000000 ts = .ok (t, r)) (h0 : t.n = 0) : termsQ nd (n + 1) args scope ts = .error (t.at_, 4) := by
  rw [termsQ, h]; simp only; rw [if_pos h0]
theorem termsQ_var {nd n : Nat} {args scope : List Int} {ts : List Tok} {t : Tok} {r : List Tok} {e : Int × Int} (h : numberQ 1000000 ts = .ok (t, r)) (h0 : ¬ t.n = 0) (hv : varQ nd scope r = .error e) : termsQ nd (n + 1) args scope ts = .error e := by
  rw [termsQ, h]; simp only; rw [if_neg h0, hv]
theorem termsQ_go {nd n : Nat} {args scope scope' : List Int} {ts r2 : List Tok} {t t2 : Tok} {r : List Tok} (h : numberQ 1000000 ts = .ok (t, r)) (h0 : ¬ t.n = 0) (hv : varQ nd scope r = .ok (scope', t2 :: r2)) (hi : isP t2 [44] = true) :
    termsQ nd (n + 1) args scope ts = termsQ nd n (args ++ [t.n]) scope' r2 := by
  rw [termsQ, h]; simp only; rw [if_neg h0, hv]; simp [isQ, hi]
theorem termsQ_end {nd n : Nat} {args scope scope' : List Int} {ts r2 : List Tok} {t t2 : Tok} {r : List Tok} (h : numberQ 1000000 ts = .ok (t, r)) (h0 : ¬ t.n = 0) (hv : varQ nd scope r = .ok (scope', t2 :: r2)) (hi : isP t2 [44] = false) :
    termsQ nd (n + 1) args scope ts = .ok ((args ++ [t.n], scope'), t2 :: r2) := by
  rw [termsQ, h]; simp only; rw [if_neg h0, hv]; simp [isQ, hi]
/-- What is behind the terms of a linear constraint. -/
def linTail (args scope : List Int) (r : List Tok) : PR (List Int × List Int) :=
  match signQ [58] r with
    | .error e => .error e
    | .ok (_, r1) =>
      let t := (nextQ r1).1
      let how := wordFrom t.text 0 howsT
      if t.kind = 1 ∧ 0 ≤ how then (match numberQ 1000000 (nextQ r1).2 with
        | .error e => .error e
        | .ok (u, r2) => .ok ((args ++ [how, u.n], scope), r2)) else .error (t.at_, 3)
theorem linearQ_eq (nd : Nat) (ts : List Tok) : linearQ nd ts = match termsQ nd (ts.length + 1) [] [] ts with
    | .error e => .error e
    | .ok (p, r) => linTail p.1 p.2 r := by
  rw [linearQ]
  cases termsQ nd (ts.length + 1) [] [] ts with
  | error e => rfl
  | ok q => rfl
theorem linTail_sign {args scope : List Int} {r : List Tok} {e : Int × Int} (h : signQ [58] r = .error e) : linTail args scope r = .error e := by rw [linTail, h]
theorem linTail_word {args scope : List Int} {r r1 : List Tok} {t : Tok} (h : signQ [58] r = .ok ((), t :: r1)) (hn : ¬ (t.kind = 1 ∧ 0 ≤ wordFrom t.text 0 howsT)) : linTail args scope r = .error (t.at_, 3) := by
  simp only [linTail, h, nextQ]; exact if_neg hn
theorem linTail_num {args scope : List Int} {r r1 : List Tok} {t : Tok} {e : Int × Int} (h : signQ [58] r = .ok ((), t :: r1)) (hk : t.kind = 1) (hn : 0 ≤ wordFrom t.text 0 howsT) (hu : numberQ 1000000 r1 = .error e) : linTail args scope r = .error e := by
  have h4 : ¬ t.kind = 4 := by omega
  simp only [linTail, h, nextQ, if_neg h4, if_pos (And.intro hk hn), hu]
theorem linTail_ok {args scope : List Int} {r r1 r2 : List Tok} {t u : Tok} (h : signQ [58] r = .ok ((), t :: r1)) (hk : t.kind = 1) (hn : 0 ≤ wordFrom t.text 0 howsT) (hu : numberQ 1000000 r1 = .ok (u, r2)) : linTail args scope r = .ok ((args ++ [wordFrom t.text 0 howsT, u.n], scope), r2) := by
  have h4 : ¬ t.kind = 4 := by omega
  simp only [linTail, h, nextQ, if_neg h4, if_pos (And.intro hk hn), hu]
theorem numberQ_cases (m : Int) (t : Tok) (r : List Tok) : numberQ m (t :: r) = .error (t.at_, 3) ∧ (t.kind == 2) = false ∨ numberQ m (t :: r) = .error (t.at_, 4) ∧ (t.kind == 2) = true ∧ smallB t.n m = false ∨ numberQ m (t :: r) = .ok (t, r) ∧ (t.kind == 2) = true ∧ smallB t.n m = true := by
  by_cases hk : (t.kind == 2) = true
  · by_cases hs : smallB t.n m = true
    · exact .inr (.inr ⟨by simp [numberQ, hk, hs], hk, hs⟩)
    · exact .inr (.inl ⟨by simp [numberQ, hk, hs], hk, Bool.eq_false_iff.2 hs⟩)
  · exact .inl ⟨by simp [numberQ, hk], Bool.eq_false_iff.2 hk⟩
/-- A contract of number for a caller: what numberQ says. -/
def NumOut (g : Nat) (w' : World) (dv hv sv : Value) (e : Ending) (t : Tok) (r : List Tok) : Prop := e = .returned (.agg (tokC t).toArray) ∧ PB g w' r dv hv sv
theorem number_q (g : Nat) (w : World) (t : Tok) (r : List Tok) (dv hv sv : Value) (m : Int) (h3 : 0 ≤ m) (h4 : m ≤ 9223372036854775807) (h : PB g w (t :: r) dv hv sv) :
    Calls Tryz.prog 101 #[.pointer (some ⟨g, 0, none⟩), .int .i64 m] w fun e w' => Out (numberQ m (t :: r)) (NumOut g w' dv hv sv e) e ∧ Chg (fun k => k = g) w w' := by
  refine (number_p g w t r dv hv sv m h3 h4 h).mono fun e w' ⟨hc, hg⟩ => ⟨?_, chg_g hg _ rfl⟩
  rcases numberQ_cases m t r with ⟨h1, h2⟩ | ⟨h1, h2, h3⟩ | ⟨h1, h2, h3⟩
  · rw [h1]; simp [h2] at hc; exact hc
  · rw [h1]; simp [h2, h3] at hc; exact hc
  · rw [h1]; simp [h2, h3] at hc; exact hc
theorem numberQ_ok {m : Int} {ts r : List Tok} {t : Tok} (h : numberQ m ts = .ok (t, r)) : ts = t :: r ∧ ¬ t.kind = 4 := by
  cases ts with
  | nil => cases h
  | cons t0 r0 =>
    rcases numberQ_cases m t0 r0 with ⟨h1, h2⟩ | ⟨h1, h2, h3⟩ | ⟨h1, h2, h3⟩ <;> rw [h1] at h
    · cases h
    · cases h
    · injection h with h; injection h with ha hb; subst ha hb; exact ⟨rfl, fun h => by simp [h] at h2⟩
/-- A sign that must be, for a caller. -/
def SignOut (g : Nat) (w' : World) (dv hv sv : Value) (e : Ending) (_ : Unit) (r : List Tok) : Prop := e = .returned (.tuple #[]) ∧ PB g w' r dv hv sv ∧ Toks r
theorem sign_q (g : Nat) (w : World) (t : Tok) (r : List Tok) (dv hv sv : Value) (s : List UInt8) (h : PB g w (t :: r) dv hv sv) (hT : Toks (t :: r)) :
    Calls Tryz.prog 75 #[.pointer (some ⟨g, 0, none⟩), .string ⟨s.toArray⟩] w fun e w' => Out (signQ s (t :: r)) (SignOut g w' dv hv sv e) e ∧ Chg (fun k => k = g) w w' := by
  refine (sign_any g w t r dv hv sv s h hT).mono fun e w' ⟨hc, hg⟩ => ⟨?_, chg_g hg _ rfl⟩
  by_cases hi : isP t s = true
  · simp only [hi, if_true] at hc
    have : signQ s (t :: r) = .ok ((), r) := by simp [signQ, hi]
    rw [this]
    exact ⟨hc.1, hc.2, hT.tail (isP_kind hi)⟩
  · have hi := Bool.eq_false_iff.2 hi
    simp only [hi, Bool.false_eq_true, if_false] at hc
    have : signQ s (t :: r) = .error (t.at_, 3) := by simp [signQ, hi]
    rw [this]
    exact hc
theorem OwnI.snoc {base : Nat} {v' : Value} {xs : List Int} {c : World} {n : Nat} {ys : List Int} (h : c.ownsRow base 3 1 v' n (xs.map (Value.int .i64) ++ ys.map (Value.int .i64))) (hn : n = (xs ++ ys).length) : OwnI base v' (xs ++ ys) c := by
  unfold OwnI
  rw [List.map_append, ← hn]
  exact h
end Go.Proofs.YtoahaigfjfeopaaGreatDoor
