/- The plain functions that the program computes, part 4: the tokens of a text. No program, no memory. -/
import Derived.Test.YtoahaigfjfeopaaGreatDoorPa
import Derived.Lib.ParseIntB
namespace Go.Proofs.YtoahaigfjfeopaaGreatDoor

def isDigit (c : UInt8) : Bool := decide (48 ≤ c.toNat) && decide (c.toNat ≤ 57)
def isLetter (c : UInt8) : Bool := decide (97 ≤ c.toNat) && decide (c.toNat ≤ 122)
def notEol (c : UInt8) : Bool := decide (c.toNat ≠ 10)
/-- How many bytes from the first on are so. -/
def runP (p : UInt8 → Bool) : List UInt8 → Nat
  | [] => 0
  | c :: r => if p c = true then runP p r + 1 else 0
/-- How many bytes are left out. -/
def leftP : List UInt8 → Nat
  | [] => 0
  | c :: r => if c.toNat = 32 ∨ c.toNat = 9 ∨ c.toNat = 10 then 1 else if c.toNat = 35 then runP notEol (c :: r) else 0
structure Tok where
  kind : Int
  text : List UInt8
  n : Int
  at_ : Int
  deriving DecidableEq, Inhabited
/-- A number ahead: what it says, and how many bytes it has; or an error. -/
def numP (l : List UInt8) : Except Int (Int × Nat) :=
  let m := if l.head? = some 45 then 1 else 0
  let ds := (l.drop m).take (runP isDigit (l.drop m))
  if ds = [] ∨ ds.head? = some 48 ∧ 1 < ds.length + m then .error 2
  else match Lib.parseIntB 64 (l.take (m + ds.length)) with
    | .ok v => if 1000000000000 < v ∨ v < -1000000000000 then .error 4 else .ok (v, m + ds.length)
    | _ => .error 4
/-- The token that a text begins with, and how many bytes it has. -/
def tokenP (l : List UInt8) : Except Int (Tok × Nat) :=
  match l with
  | [] => .error 2
  | c :: r =>
    if c.toNat = 58 ∨ c.toNat = 44 ∨ c.toNat = 59 then .ok (⟨3, [c], 0, 0⟩, 1)
    else if isLetter c = true then .ok (⟨1, (c :: r).take (runP isLetter (c :: r)), 0, 0⟩, runP isLetter (c :: r))
    else if isDigit c = true ∨ c.toNat = 45 then match numP (c :: r) with
      | .ok (n, k) => .ok (⟨2, [], n, 0⟩, k)
      | .error e => .error e
    else .error 2
/-- The tokens from a place on. -/
def scanP : Nat → Nat → List UInt8 → Except (Nat × Int) (List Tok)
  | 0, _, _ => .ok []
  | f + 1, at_, l =>
    if l = [] then .ok [⟨4, [], 0, at_⟩]
    else if 0 < leftP l then scanP f (at_ + leftP l) (l.drop (leftP l))
    else match tokenP l with
      | .error e => .error (at_, e)
      | .ok (t, k) => match scanP f (at_ + k) (l.drop k) with
        | .ok ts => .ok ({ t with at_ := at_ } :: ts)
        | .error e => .error e
def allP (l : List UInt8) : Except (Nat × Int) (List Tok) :=
  if 100000 < l.length then .error (0, 7) else scanP (l.length + 1) 0 l

theorem runP_le (p : UInt8 → Bool) : ∀ l : List UInt8, runP p l ≤ l.length
  | [] => Nat.le_refl _
  | c :: r => by
    unfold runP
    have := runP_le p r
    split <;> simp <;> omega
theorem runP_drop (p : UInt8 → Bool) (l : List UInt8) (k : Nat) (h : k < l.length) : runP p (l.drop k) = if p (nth 0 l k) = true then runP p (l.drop (k + 1)) + 1 else 0 := by
  rw [drop_cons l 0 k h, runP]

theorem leftP_le (l : List UInt8) : leftP l ≤ l.length := by
  cases l with
  | nil => exact Nat.le_refl _
  | cons c r =>
    have := runP_le notEol (c :: r)
    simp only [leftP]
    split
    · simp
    · split
      · exact this
      · simp
theorem numP_size {l : List UInt8} {n : Int} {k : Nat} (h : numP l = .ok (n, k)) : 0 < k ∧ k ≤ l.length := by
  unfold numP at h
  dsimp only at h
  have hm1 : (if l.head? = some 45 then 1 else 0) ≤ l.length := by cases l <;> simp; split <;> omega
  generalize (if l.head? = some 45 then 1 else 0) = m at h hm1
  have hle : ((l.drop m).take (runP isDigit (l.drop m))).length ≤ l.length - m := by rw [List.length_take, List.length_drop]; omega
  generalize (l.drop m).take (runP isDigit (l.drop m)) = ds at h hle
  by_cases hc : ds = [] ∨ ds.head? = some 48 ∧ 1 < ds.length + m
  · rw [if_pos hc] at h; cases h
  · rw [if_neg hc] at h
    have hpos : 0 < ds.length := List.length_pos_iff.2 fun e => hc (.inl e)
    cases hp : Lib.parseIntB 64 (l.take (m + ds.length)) with
    | ok v =>
      rw [hp] at h
      simp only at h
      by_cases hv : 1000000000000 < v ∨ v < -1000000000000
      · rw [if_pos hv] at h; cases h
      · rw [if_neg hv] at h
        injection h with h
        injection h with _ h
        omega
    | «syntax» => rw [hp] at h; cases h
    | range => rw [hp] at h; cases h
theorem tokenP_size {l : List UInt8} {t : Tok} {k : Nat} (h : tokenP l = .ok (t, k)) : 0 < k ∧ k ≤ l.length := by
  cases l with
  | nil => cases h
  | cons c r =>
    simp only [tokenP] at h
    split at h
    · injection h with h; injection h with _ h; simp; omega
    · split at h
      · rename_i hw
        injection h with h; injection h with _ h
        have := runP_le isLetter (c :: r)
        have h1 : 0 < runP isLetter (c :: r) := by unfold runP; rw [if_pos hw]; omega
        omega
      · split at h
        · split at h
          · rename_i n q hn
            injection h with h; injection h with _ h
            have := numP_size hn
            omega
          · cases h
        · cases h
theorem numP_err {l : List UInt8} {x : Int} (h : numP l = .error x) : x = 2 ∨ x = 4 := by
  unfold numP at h
  dsimp only at h
  generalize (if l.head? = some 45 then 1 else 0) = m at h
  generalize (l.drop m).take (runP isDigit (l.drop m)) = ds at h
  by_cases hc : ds = [] ∨ ds.head? = some 48 ∧ 1 < ds.length + m
  · rw [if_pos hc] at h; injection h with h; exact .inl h.symm
  · rw [if_neg hc] at h
    cases hp : Lib.parseIntB 64 (l.take (m + ds.length)) with
    | ok v =>
      rw [hp] at h
      simp only at h
      by_cases hv : 1000000000000 < v ∨ v < -1000000000000
      · rw [if_pos hv] at h; injection h with h; exact .inr h.symm
      · rw [if_neg hv] at h; cases h
    | «syntax» => rw [hp] at h; injection h with h; exact .inr h.symm
    | range => rw [hp] at h; injection h with h; exact .inr h.symm
theorem tokenP_err {l : List UInt8} {x : Int} (h : tokenP l = .error x) : x = 2 ∨ x = 4 := by
  cases l with
  | nil => injection h with h; exact .inl h.symm
  | cons c r =>
    simp only [tokenP] at h
    split at h
    · cases h
    · split at h
      · cases h
      · split at h
        · split at h
          · cases h
          · rename_i hn; injection h with h; subst h; exact numP_err hn
        · injection h with h; exact .inl h.symm
/-- The tokens from a place on, with as many rounds as are wanted. -/
def scanQ (at_ : Nat) (l : List UInt8) : Except (Nat × Int) (List Tok) := scanP (l.length + 1) at_ l
theorem scanP_fuel : ∀ (f g at_ : Nat) (l : List UInt8), l.length < f → l.length < g → scanP f at_ l = scanP g at_ l
  | 0, _, _, _, h, _ => by omega
  | _ + 1, 0, _, _, _, h => by omega
  | f + 1, g + 1, at_, l, hf, hg => by
    rw [scanP, scanP]
    by_cases hl : l = []
    · rw [if_pos hl, if_pos hl]
    · have hpos : 0 < l.length := List.length_pos_iff.2 hl
      rw [if_neg hl, if_neg hl]
      by_cases h0 : 0 < leftP l
      · have := leftP_le l
        rw [if_pos h0, if_pos h0, scanP_fuel f g _ _ (by rw [List.length_drop]; omega) (by rw [List.length_drop]; omega)]
      · rw [if_neg h0, if_neg h0]
        cases ht : tokenP l with
        | error e => rfl
        | ok p =>
          obtain ⟨t, k⟩ := p
          have hk := tokenP_size ht
          simp only
          rw [scanP_fuel f g _ _ (by rw [List.length_drop]; omega) (by rw [List.length_drop]; omega)]
theorem scanQ_nil (at_ : Nat) : scanQ at_ [] = .ok [⟨4, [], 0, at_⟩] := rfl
theorem scanQ_left (at_ : Nat) (l : List UInt8) (hl : l ≠ []) (h0 : 0 < leftP l) : scanQ at_ l = scanQ (at_ + leftP l) (l.drop (leftP l)) := by
  have hpos : 0 < l.length := List.length_pos_iff.2 hl
  have := leftP_le l
  unfold scanQ
  rw [scanP, if_neg hl, if_pos h0]
  exact scanP_fuel _ _ _ _ (by rw [List.length_drop]; omega) (by omega)
theorem scanQ_bad (at_ : Nat) (l : List UInt8) (hl : l ≠ []) (h0 : ¬ 0 < leftP l) {e : Int} (h : tokenP l = .error e) : scanQ at_ l = .error (at_, e) := by
  unfold scanQ
  rw [scanP, if_neg hl, if_neg h0, h]
theorem scanQ_tok (at_ : Nat) (l : List UInt8) (hl : l ≠ []) (h0 : ¬ 0 < leftP l) {t : Tok} {k : Nat} (h : tokenP l = .ok (t, k)) :
    scanQ at_ l = match scanQ (at_ + k) (l.drop k) with | .ok ts => .ok ({ t with at_ := at_ } :: ts) | .error e => .error e := by
  have hpos : 0 < l.length := List.length_pos_iff.2 hl
  have hk := tokenP_size h
  unfold scanQ
  rw [scanP, if_neg hl, if_neg h0, h]
  simp only
  rw [scanP_fuel l.length ((l.drop k).length + 1) _ _ (by rw [List.length_drop]; omega) (by omega)]
/-- What was told ahead, and what comes. -/
def preP (ts : List Tok) : Except (Nat × Int) (List Tok) → Except (Nat × Int) (List Tok)
  | .ok r => .ok (ts ++ r)
  | .error e => .error e
theorem preP_tok (ts : List Tok) (t : Tok) (x : Except (Nat × Int) (List Tok)) : preP ts (match x with | .ok r => .ok (t :: r) | .error e => .error e) = preP (ts ++ [t]) x := by
  cases x <;> simp [preP]
end Go.Proofs.YtoahaigfjfeopaaGreatDoor
