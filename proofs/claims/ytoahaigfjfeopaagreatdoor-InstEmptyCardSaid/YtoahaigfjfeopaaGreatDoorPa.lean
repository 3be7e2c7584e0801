/- The plain functions that the program computes, part 1: rows of numbers. No program, no memory. -/
namespace Go.Proofs.YtoahaigfjfeopaaGreatDoor

/-- An element by its place. -/
def nth {α : Type} (z : α) (xs : List α) (k : Nat) : α := xs.getD k z
theorem nth_get {α : Type} (z : α) (xs : List α) (k : Nat) (h : k < xs.length) : xs[k]? = some (nth z xs k) := by simp [nth, List.getD_eq_getElem?_getD, List.getElem?_eq_getElem h]
/-- Two numbers held against each other. -/
def cmp1 (a b : Int) : Int := if a < b then -1 else if b < a then 1 else 0
/-- Two rows held against each other. -/
def cmpL : List Int → List Int → Int
  | [], [] => 0
  | [], _ :: _ => -1
  | _ :: _, [] => 1
  | a :: as, b :: bs => if a < b then -1 else if b < a then 1 else cmpL as bs
/-- Numbers rise. -/
def risingB : List Int → Bool
  | a :: b :: r => decide (a < b) && risingB (b :: r)
  | _ => true
def smallB (n most : Int) : Bool := decide (-most ≤ n) && decide (n ≤ most)
/-- Where a number stands, from a place on; -1: nowhere. -/
def indexFrom (x : Int) : Nat → List Int → Int
  | _, [] => -1
  | i, a :: r => if a = x then i else indexFrom x (i + 1) r

theorem drop_cons {α : Type} (xs : List α) (z : α) (k : Nat) (h : k < xs.length) : xs.drop k = nth z xs k :: xs.drop (k + 1) := by
  rw [List.drop_eq_getElem_cons h]
  simp [nth, List.getD_eq_getElem?_getD, List.getElem?_eq_getElem h]
theorem indexFrom_ge (x : Int) : ∀ (l : List Int) (i : Nat), 0 ≤ indexFrom x i l ↔ x ∈ l
  | [], i => by simp [indexFrom]
  | a :: r, i => by
    unfold indexFrom
    split
    · rename_i h; simp [h]
    · rename_i h
      rw [indexFrom_ge x r (i + 1)]
      simp [Ne.symm h]
theorem indexFrom_le (x : Int) : ∀ (l : List Int) (i : Nat), indexFrom x i l ≤ i + l.length ∧ -1 ≤ indexFrom x i l
  | [], i => by simp [indexFrom]
  | a :: r, i => by
    unfold indexFrom
    split
    · simp; omega
    · have := indexFrom_le x r (i + 1)
      simp only [List.length_cons]
      omega
theorem risingB_drop (xs : List Int) (k : Nat) (h : k + 1 < xs.length) : risingB (xs.drop k) = (decide (nth 0 xs k < nth 0 xs (k + 1)) && risingB (xs.drop (k + 1))) := by
  rw [drop_cons xs 0 k (by omega), drop_cons xs 0 (k + 1) h, risingB]
theorem risingB_last (xs : List Int) (k : Nat) (h : xs.length ≤ k + 1) : risingB (xs.drop k) = true := by
  rcases Nat.lt_or_ge k xs.length with h1 | h1
  · rw [drop_cons xs 0 k h1, List.drop_eq_nil_of_le (by omega)]; rfl
  · rw [List.drop_eq_nil_of_le h1]; rfl
end Go.Proofs.YtoahaigfjfeopaaGreatDoor
