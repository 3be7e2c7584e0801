/- Blanks and comments alone: no token. -/
import Derived.Test.YtoahaigfjfeopaaGreatDoorPg
namespace Go.Proofs.YtoahaigfjfeopaaGreatDoor

/-- What a number says: a blank, a line's end, or a comment. -/
def blank1 (v : Int) : List UInt8 := if v % 4 = 0 then [32] else if v % 4 = 1 then [10] else if v % 4 = 2 then [9] else [35, 118, 97, 114, 32, 48, 59, 10]
def blankP (l : List Int) : List UInt8 := l.flatMap blank1
theorem scan_one (a : Nat) (c : UInt8) (r : List UInt8) (h : c.toNat = 32 ∨ c.toNat = 9 ∨ c.toNat = 10) : scanQ a (c :: r) = scanQ (a + 1) r := by
  have hl : leftP (c :: r) = 1 := by rw [leftP, if_pos h]
  rw [scanQ_left a (c :: r) (by simp) (by omega), hl]
  rfl
theorem scan_note (a : Nat) (r : List UInt8) : scanQ a ([35, 118, 97, 114, 32, 48, 59, 10] ++ r) = scanQ (a + 8) r := by
  have hl : leftP ([35, 118, 97, 114, 32, 48, 59, 10] ++ r) = 7 := by
    simp [leftP, runP, notEol]
  rw [scanQ_left a _ (by simp) (by omega), hl]
  exact scan_one (a + 7) 10 r (by decide)
theorem scan_blank1 (a : Nat) (v : Int) (r : List UInt8) : scanQ a (blank1 v ++ r) = scanQ (a + (blank1 v).length) r := by
  unfold blank1
  split
  · exact scan_one a 32 r (by decide)
  · split
    · exact scan_one a 10 r (by decide)
    · split
      · exact scan_one a 9 r (by decide)
      · exact scan_note a r
theorem scan_blank : ∀ (l : List Int) (a : Nat), scanQ a (blankP l) = .ok [⟨4, [], 0, a + (blankP l).length⟩]
  | [], a => by rw [show blankP [] = [] from rfl, scanQ_nil]; rfl
  | v :: l, a => by
    rw [show blankP (v :: l) = blank1 v ++ blankP l from rfl, scan_blank1, scan_blank l, List.length_append]; simp only [Except.ok.injEq, List.cons.injEq, Tok.mk.injEq, true_and, and_true]; omega
theorem blank1_len (v : Int) : (blank1 v).length ≤ 8 := by
  unfold blank1
  split
  · decide
  · split
    · decide
    · split <;> decide
theorem blankP_len : ∀ l : List Int, (blankP l).length ≤ 8 * l.length
  | [] => Nat.le_refl _
  | v :: l => by
    have := blankP_len l
    have := blank1_len v
    rw [show blankP (v :: l) = blank1 v ++ blankP l from rfl, List.length_append, List.length_cons]
    omega
theorem parse_blank (l : List Int) (h : l.length ≤ 60) : parseP (blankP l) = .ok ⟨[], [], []⟩ := by
  have hl := blankP_len l
  have ha : allP (blankP l) = .ok [⟨4, [], 0, 0 + (blankP l).length⟩] := by
    rw [allP, if_neg (by omega)]
    exact scan_blank l 0
  simp only [parseP, ha]
  rw [stmtsQ]
  rfl
theorem blankP_snoc (l : List Int) (v : Int) : blankP (l ++ [v]) = blankP l ++ blank1 v := by simp [blankP]
theorem take_next (l : List Int) (k : Nat) (h : k < l.length) : l.take (k + 1) = l.take k ++ [nth 0 l k] := by
  rw [List.take_add_one, nth_get 0 l k h]; rfl
end Go.Proofs.YtoahaigfjfeopaaGreatDoor
