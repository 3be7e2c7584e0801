/- The plain functions that the program computes, part 3: an instance as a text. No program, no memory. -/
import Derived.Test.YtoahaigfjfeopaaGreatDoorPb
import Derived.Lib.ItoaNum
namespace Go.Proofs.YtoahaigfjfeopaaGreatDoor

/-- Numbers, each with a space ahead. -/
def numsP (l : List Int) : List UInt8 := l.flatMap fun n => 32 :: Lib.itoa n
/-- The words of hard constraints; of how a sum is held against a number. -/
def wordsT : List (List UInt8) := [[], [116, 97, 98, 108, 101], [102, 111, 114, 98, 105, 100], [100, 105, 102, 102], [101, 113, 117, 97, 108], [114, 105, 115, 105, 110, 103], [108, 105, 110, 101, 97, 114]]
def howsT : List (List UInt8) := [[101, 113], [108, 101], [110, 101]]
def varT : List UInt8 := [118, 97, 114]
def softT : List UInt8 := [115, 111, 102, 116]
/-- A comma, but ahead of the first. -/
def commaP (i : Nat) : List UInt8 := if 0 < i then [44] else []
def rowsP : Nat → List (List Int) → List UInt8
  | _, [] => []
  | i, t :: r => commaP i ++ numsP t ++ rowsP (i + 1) r
def linP : Nat → List Int → List Int → List UInt8
  | i, a :: as, v :: vs => commaP i ++ numsP [a, v] ++ linP (i + 1) as vs
  | _, _, _ => []
def hardP (c : Con) : List UInt8 :=
  nth [] wordsT c.kind.toNat ++
    if c.kind = 6 then linP 0 c.args c.scope ++ ([58, 32] ++ nth [] howsT (nth 0 c.args c.scope.length).toNat) ++ numsP [nth 0 c.args (c.scope.length + 1)]
    else numsP c.scope ++ if 2 < c.kind then [] else [58] ++ rowsP 0 c.rows
def costsP : List (List Int) → List Int → List UInt8
  | t :: r, c :: cs => [44] ++ numsP t ++ numsP [c] ++ costsP r cs
  | _, _ => []
def softP (s : Sft) : List UInt8 := softT ++ numsP s.scope ++ [58] ++ numsP [s.dflt] ++ costsP s.rows s.costs
def endT : List UInt8 := [59, 10]
def domsP (l : List (List Int)) : List UInt8 := l.flatMap fun d => varT ++ numsP d ++ endT
def hardsP (l : List Con) : List UInt8 := l.flatMap fun c => hardP c ++ endT
def softsP (l : List Sft) : List UInt8 := l.flatMap fun s => softP s ++ endT
def printP (x : Ins) : List UInt8 := if rightB x = true then domsP x.doms ++ hardsP x.hard ++ softsP x.soft else []

/-- A number that the texts may tell. -/
def Fit (n : Int) : Prop := -1000000000000 ≤ n ∧ n ≤ 1000000000000
def Fits (l : List Int) : Prop := ∀ k, k < l.length → Fit (nth 0 l k)

theorem numsP_snoc (l : List Int) (k : Nat) (h : k < l.length) : numsP (l.take (k + 1)) = numsP (l.take k) ++ (32 :: Lib.itoa (nth 0 l k)) := by
  have e : l.take (k + 1) = l.take k ++ [nth 0 l k] := by
    rw [List.take_add_one, nth_get 0 l k h]; rfl
  rw [e]; simp [numsP]
theorem numsP_take_le (l : List Int) (k : Nat) : (numsP (l.take k)).length ≤ (numsP l).length := by
  have : numsP l = numsP (l.take k) ++ numsP (l.drop k) := by
    unfold numsP; rw [← List.flatMap_append, List.take_append_drop]
  rw [this]; simp

theorem take_snoc {α : Type} (z : α) (l : List α) (k : Nat) (h : k < l.length) : l.take (k + 1) = l.take k ++ [nth z l k] := by
  rw [List.take_add_one, nth_get z l k h]; rfl
theorem rowsP_snoc : ∀ (l : List (List Int)) (i : Nat) (t : List Int), rowsP i (l ++ [t]) = rowsP i l ++ (commaP (i + l.length) ++ numsP t)
  | [], i, t => by simp [rowsP]
  | a :: l, i, t => by
    simp only [List.cons_append, rowsP, rowsP_snoc l (i + 1) t, List.length_cons, List.append_assoc]
    rw [show i + 1 + l.length = i + (l.length + 1) from by omega]
theorem rowsP_step (l : List (List Int)) (k : Nat) (h : k < l.length) : rowsP 0 (l.take (k + 1)) = rowsP 0 (l.take k) ++ (commaP k ++ numsP (nth [] l k)) := by
  rw [take_snoc [] l k h, rowsP_snoc, List.length_take, Nat.min_eq_left (by omega), Nat.zero_add]
theorem rowsP_append (i : Nat) : ∀ (l m : List (List Int)), ∃ r, rowsP i (l ++ m) = rowsP i l ++ r := by
  intro l m
  induction l generalizing i with
  | nil => exact ⟨_, rfl⟩
  | cons a l ih => obtain ⟨r, hr⟩ := ih (i + 1); exact ⟨r, by simp only [List.cons_append, rowsP, hr, List.append_assoc]⟩
theorem rowsP_take_le (l : List (List Int)) (k : Nat) : (rowsP 0 (l.take k)).length ≤ (rowsP 0 l).length := by
  obtain ⟨r, hr⟩ := rowsP_append 0 (l.take k) (l.drop k)
  rw [List.take_append_drop] at hr
  rw [hr, List.length_append]; omega
theorem linP_snoc : ∀ (as vs : List Int) (i : Nat) (a v : Int), as.length = vs.length → linP i (as ++ [a]) (vs ++ [v]) = linP i as vs ++ (commaP (i + vs.length) ++ numsP [a, v])
  | [], [], i, a, v, _ => by simp [linP]
  | a0 :: as, v0 :: vs, i, a, v, h => by
    simp only [List.length_cons, Nat.add_right_cancel_iff] at h
    simp only [List.cons_append, linP, linP_snoc as vs (i + 1) a v h, List.length_cons, List.append_assoc]
    rw [show i + 1 + vs.length = i + (vs.length + 1) from by omega]
theorem linP_step (as vs : List Int) (k : Nat) (h : k < vs.length) (h' : k < as.length) : linP 0 (as.take (k + 1)) (vs.take (k + 1)) = linP 0 (as.take k) (vs.take k) ++ (commaP k ++ numsP [nth 0 as k, nth 0 vs k]) := by
  rw [take_snoc 0 as k h', take_snoc 0 vs k h, linP_snoc _ _ _ _ _ (by rw [List.length_take, List.length_take]; omega), List.length_take, Nat.min_eq_left (by omega), Nat.zero_add]
theorem linP_all : ∀ (as vs : List Int) (i : Nat), linP i (as.take vs.length) vs = linP i as vs
  | [], vs, i => by simp
  | a :: as, [], i => by simp [linP]
  | a :: as, v :: vs, i => by simp only [List.length_cons, List.take_succ_cons, linP, linP_all as vs (i + 1)]
theorem linP_append (i : Nat) : ∀ (as vs bs us : List Int), as.length = vs.length → ∃ r, linP i (as ++ bs) (vs ++ us) = linP i as vs ++ r := by
  intro as
  induction as generalizing i with
  | nil => intro vs bs us h; cases vs with
    | nil => exact ⟨_, rfl⟩
    | cons v vs => simp at h
  | cons a as ih => intro vs bs us h; cases vs with
    | nil => simp at h
    | cons v vs =>
      simp only [List.length_cons, Nat.add_right_cancel_iff] at h
      obtain ⟨r, hr⟩ := ih (i + 1) vs bs us h
      exact ⟨r, by simp only [List.cons_append, linP, hr, List.append_assoc]⟩
theorem linP_take_le (as vs : List Int) (k : Nat) (h : k ≤ vs.length) (h' : vs.length ≤ as.length) : (linP 0 (as.take k) (vs.take k)).length ≤ (linP 0 as vs).length := by
  obtain ⟨r, hr⟩ := linP_append 0 (as.take k) (vs.take k) (as.drop k) (vs.drop k) (by rw [List.length_take, List.length_take]; omega)
  rw [List.take_append_drop, List.take_append_drop] at hr
  rw [hr, List.length_append]; omega
theorem numsP_two (a v : Int) : numsP [a, v] = (32 :: Lib.itoa a) ++ (32 :: Lib.itoa v) := by simp [numsP]
theorem fits_two {a v : Int} (h : Fit a) (h' : Fit v) : Fits [a, v] := by
  intro k hk
  match k, hk with
  | 0, _ => exact h
  | 1, _ => exact h'
theorem fits_one {a : Int} (h : Fit a) : Fits [a] := by
  intro k hk
  match k, hk with
  | 0, _ => exact h

theorem costsP_snoc : ∀ (l : List (List Int)) (cs : List Int) (t : List Int) (c : Int), l.length = cs.length → costsP (l ++ [t]) (cs ++ [c]) = costsP l cs ++ ([44] ++ (numsP t ++ numsP [c]))
  | [], [], t, c, _ => by simp [costsP]
  | a :: l, b :: cs, t, c, h => by
    simp only [List.length_cons, Nat.add_right_cancel_iff] at h
    simp only [List.cons_append, costsP, costsP_snoc l cs t c h, List.append_assoc, List.nil_append]
theorem costsP_step (l : List (List Int)) (cs : List Int) (k : Nat) (h : k < l.length) (h' : l.length = cs.length) : costsP (l.take (k + 1)) (cs.take (k + 1)) = costsP (l.take k) (cs.take k) ++ ([44] ++ (numsP (nth [] l k) ++ numsP [nth 0 cs k])) := by
  rw [take_snoc [] l k h, take_snoc 0 cs k (by omega), costsP_snoc _ _ _ _ (by rw [List.length_take, List.length_take]; omega)]
theorem costsP_append : ∀ (l m : List (List Int)) (cs ds : List Int), l.length = cs.length → ∃ r, costsP (l ++ m) (cs ++ ds) = costsP l cs ++ r
  | [], m, [], ds, _ => ⟨_, rfl⟩
  | a :: l, m, b :: cs, ds, h => by
    simp only [List.length_cons, Nat.add_right_cancel_iff] at h
    obtain ⟨r, hr⟩ := costsP_append l m cs ds h
    exact ⟨r, by simp only [List.cons_append, costsP, hr, List.append_assoc, List.nil_append]⟩
theorem costsP_take_le (l : List (List Int)) (cs : List Int) (k : Nat) (h' : l.length = cs.length) : (costsP (l.take k) (cs.take k)).length ≤ (costsP l cs).length := by
  obtain ⟨r, hr⟩ := costsP_append (l.take k) (l.drop k) (cs.take k) (cs.drop k) (by rw [List.length_take, List.length_take]; omega)
  rw [List.take_append_drop, List.take_append_drop] at hr
  rw [hr, List.length_append]; omega
end Go.Proofs.YtoahaigfjfeopaaGreatDoor
