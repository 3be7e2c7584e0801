/- Texts joined: Pe Wn Wo Wp Wq Wr Pf Ws Wt Wu. -/
import Derived.Test.YtoahaigfjfeopaaGreatDoorGa
import Derived.Lib.ParseIntB
import Derived.Test.YtoahaigfjfeopaaGreatDoorShelf
import Derived.Laws.DeepStrings4
import Derived.Deep.DeepFit
import Derived.Lib.IndexBytes
import Derived.Lib.AtoiErrMem
import Derived.Laws.ResultCell
import Derived.ScopeJumps
import Derived.Scope
import Derived.LoopTactic
import Derived.Deep.OwnRows
import Derived.Maps.AppendAt
import Derived.Deep.AppendLies
import Derived.Laws.BytesArg
import Derived.WalkSmall
import Derived.Test.YtoahaigfjfeopaaGreatDoorGb
import Derived.StillTailTactics
/- The plain functions that the program computes, part 4: the tokens of a text. No program, no memory. -/
namespace Go.Proofs.YtoahaigfjfeopaaGreatDoor

def isDigit (c : UInt8) : Bool := decide (48 ≤ c.toNat) && decide (c.toNat ≤ 57)
def isLetter (c : UInt8) : Bool := decide (97 ≤ c.toNat) && decide (c.toNat ≤ 122)
def notEol (c : UInt8) : Bool := decide (c.toNat ≠ 10)
/-- How many bytes from the first on are so. -/
def runP (p : UInt8 → Bool) : List UInt8 → Nat
  | [] => 0
  | c :: r => if p c = true then runP p r + 1 else 0
/-- How many bytes are left out. -/
def leftP : List UInt8 → Nat
  | [] => 0
  | c :: r => if c.toNat = 32 ∨ c.toNat = 9 ∨ c.toNat = 10 then 1 else if c.toNat = 35 then runP notEol (c :: r) else 0
structure Tok where
  kind : Int
  text : List UInt8
  n : Int
  at_ : Int
  deriving DecidableEq, Inhabited
/-- A number ahead: what it says, and how many bytes it has; or an error. -/
def numP (l : List UInt8) : Except Int (Int × Nat) :=
  let m := if l.head? = some 45 then 1 else 0
  let ds := (l.drop m).take (runP isDigit (l.drop m))
  if ds = [] ∨ ds.head? = some 48 ∧ 1 < ds.length + m then .error 2
  else match Lib.parseIntB 64 (l.take (m + ds.length)) with
    | .ok v => if 1000000000000 < v ∨ v < -1000000000000 then .error 4 else .ok (v, m + ds.length)
    | _ => .error 4
/-- The token that a text begins with, and how many bytes it has. -/
def tokenP (l : List UInt8) : Except Int (Tok × Nat) :=
  match l with
  | [] => .error 2
  | c :: r =>
    if c.toNat = 58 ∨ c.toNat = 44 ∨ c.toNat = 59 then .ok (⟨3, [c], 0, 0⟩, 1)
    else if isLetter c = true then .ok (⟨1, (c :: r).take (runP isLetter (c :: r)), 0, 0⟩, runP isLetter (c :: r))
    else if isDigit c = true ∨ c.toNat = 45 then match numP (c :: r) with
      | .ok (n, k) => .ok (⟨2, [], n, 0⟩, k)
      | .error e => .error e
    else .error 2
/-- The tokens from a place on. -/
def scanP : Nat → Nat → List UInt8 → Except (Nat × Int) (List Tok)
  | 0, _, _ => .ok []
  | f + 1, at_, l =>
    if l = [] then .ok [⟨4, [], 0, at_⟩]
    else if 0 < leftP l then scanP f (at_ + leftP l) (l.drop (leftP l))
    else match tokenP l with
      | .error e => .error (at_, e)
      | .ok (t, k) => match scanP f (at_ + k) (l.drop k) with
        | .ok ts => .ok ({ t with at_ := at_ } :: ts)
        | .error e => .error e
def allP (l : List UInt8) : Except (Nat × Int) (List Tok) :=
  if 100000 < l.length then .error (0, 7) else scanP (l.length + 1) 0 l

theorem runP_le (p : UInt8 → Bool) : ∀ l : List UInt8, runP p l ≤ l.length
  | [] => Nat.le_refl _
  | c :: r => by
    unfold runP
    have := runP_le p r
    split <;> simp <;> omega
theorem runP_drop (p : UInt8 → Bool) (l : List UInt8) (k : Nat) (h : k < l.length) : runP p (l.drop k) = if p (nth 0 l k) = true then runP p (l.drop (k + 1)) + 1 else 0 := by
  rw [drop_cons l 0 k h, runP]

theorem leftP_le (l : List UInt8) : leftP l ≤ l.length := by
  cases l with
  | nil => exact Nat.le_refl _
  | cons c r =>
    have := runP_le notEol (c :: r)
    simp only [leftP]
    split
    · simp
    · split
      · exact this
      · simp
theorem numP_size {l : List UInt8} {n : Int} {k : Nat} (h : numP l = .ok (n, k)) : 0 < k ∧ k ≤ l.length := by
  unfold numP at h
  dsimp only at h
  have hm1 : (if l.head? = some 45 then 1 else 0) ≤ l.length := by cases l <;> simp; split <;> omega
  generalize (if l.head? = some 45 then 1 else 0) = m at h hm1
  have hle : ((l.drop m).take (runP isDigit (l.drop m))).length ≤ l.length - m := by rw [List.length_take, List.length_drop]; omega
  generalize (l.drop m).take (runP isDigit (l.drop m)) = ds at h hle
  by_cases hc : ds = [] ∨ ds.head? = some 48 ∧ 1 < ds.length + m
  · rw [if_pos hc] at h; cases h
  · rw [if_neg hc] at h
    have hpos : 0 < ds.length := List.length_pos_iff.2 fun e => hc (.inl e)
    cases hp : Lib.parseIntB 64 (l.take (m + ds.length)) with
    | ok v =>
      rw [hp] at h
      simp only at h
      by_cases hv : 1000000000000 < v ∨ v < -1000000000000
      · rw [if_pos hv] at h; cases h
      · rw [if_neg hv] at h
        injection h with h
        injection h with _ h
        omega
    | range => rw [hp] at h; cases h
    | _ => rw [hp] at h; cases h
theorem tokenP_size {l : List UInt8} {t : Tok} {k : Nat} (h : tokenP l = .ok (t, k)) : 0 < k ∧ k ≤ l.length := by
  cases l with
  | nil => cases h
  | cons c r =>
    simp only [tokenP] at h
    split at h
    · injection h with h; injection h with _ h; simp; omega
    · split at h
      · rename_i hw
        injection h with h; injection h with _ h
        have := runP_le isLetter (c :: r)
        have h1 : 0 < runP isLetter (c :: r) := by unfold runP; rw [if_pos hw]; omega
        omega
      · split at h
        · split at h
          · rename_i n q hn
            injection h with h; injection h with _ h
            have := numP_size hn
            omega
          · cases h
        · cases h
theorem numP_err {l : List UInt8} {x : Int} (h : numP l = .error x) : x = 2 ∨ x = 4 := by
  unfold numP at h
  dsimp only at h
  generalize (if l.head? = some 45 then 1 else 0) = m at h
  generalize (l.drop m).take (runP isDigit (l.drop m)) = ds at h
  by_cases hc : ds = [] ∨ ds.head? = some 48 ∧ 1 < ds.length + m
  · rw [if_pos hc] at h; injection h with h; exact .inl h.symm
  · rw [if_neg hc] at h
    cases hp : Lib.parseIntB 64 (l.take (m + ds.length)) with
    | ok v =>
      rw [hp] at h
      simp only at h
      by_cases hv : 1000000000000 < v ∨ v < -1000000000000
      · rw [if_pos hv] at h; injection h with h; exact .inr h.symm
      · rw [if_neg hv] at h; cases h
    | range => rw [hp] at h; injection h with h; exact .inr h.symm
    | _ => rw [hp] at h; injection h with h; exact .inr h.symm
theorem tokenP_err {l : List UInt8} {x : Int} (h : tokenP l = .error x) : x = 2 ∨ x = 4 := by
  cases l with
  | nil => injection h with h; exact .inl h.symm
  | cons c r =>
    simp only [tokenP] at h
    split at h
    · cases h
    · split at h
      · cases h
      · split at h
        · split at h
          · cases h
          · rename_i hn; injection h with h; subst h; exact numP_err hn
        · injection h with h; exact .inl h.symm
/-- The tokens from a place on, with as many rounds as are wanted. -/
def scanQ (at_ : Nat) (l : List UInt8) : Except (Nat × Int) (List Tok) := scanP (l.length + 1) at_ l
theorem scanP_fuel : ∀ (f g at_ : Nat) (l : List UInt8), l.length < f → l.length < g → scanP f at_ l = scanP g at_ l
  | 0, _, _, _, h, _ => by omega
  | _ + 1, 0, _, _, _, h => by omega
  | f + 1, g + 1, at_, l, hf, hg => by
    rw [scanP, scanP]
    by_cases hl : l = []
    · rw [if_pos hl, if_pos hl]
    · have hpos : 0 < l.length := List.length_pos_iff.2 hl
      rw [if_neg hl, if_neg hl]
      by_cases h0 : 0 < leftP l
      · have := leftP_le l
        rw [if_pos h0, if_pos h0, scanP_fuel f g _ _ (by rw [List.length_drop]; omega) (by rw [List.length_drop]; omega)]
      · rw [if_neg h0, if_neg h0]
        cases ht : tokenP l with
        | error e => rfl
        | ok p =>
          obtain ⟨t, k⟩ := p
          have hk := tokenP_size ht
          simp only
          rw [scanP_fuel f g _ _ (by rw [List.length_drop]; omega) (by rw [List.length_drop]; omega)]
theorem scanQ_nil (at_ : Nat) : scanQ at_ [] = .ok [⟨4, [], 0, at_⟩] := rfl
theorem scanQ_left (at_ : Nat) (l : List UInt8) (hl : l ≠ []) (h0 : 0 < leftP l) : scanQ at_ l = scanQ (at_ + leftP l) (l.drop (leftP l)) := by
  have hpos : 0 < l.length := List.length_pos_iff.2 hl
  have := leftP_le l
  unfold scanQ
  rw [scanP, if_neg hl, if_pos h0]
  exact scanP_fuel _ _ _ _ (by rw [List.length_drop]; omega) (by omega)
theorem scanQ_bad (at_ : Nat) (l : List UInt8) (hl : l ≠ []) (h0 : ¬ 0 < leftP l) {e : Int} (h : tokenP l = .error e) : scanQ at_ l = .error (at_, e) := by
  unfold scanQ
  rw [scanP, if_neg hl, if_neg h0, h]
theorem scanQ_tok (at_ : Nat) (l : List UInt8) (hl : l ≠ []) (h0 : ¬ 0 < leftP l) {t : Tok} {k : Nat} (h : tokenP l = .ok (t, k)) :
    scanQ at_ l = match scanQ (at_ + k) (l.drop k) with | .ok ts => .ok ({ t with at_ := at_ } :: ts) | .error e => .error e := by
  have hpos : 0 < l.length := List.length_pos_iff.2 hl
  have hk := tokenP_size h
  unfold scanQ
  rw [scanP, if_neg hl, if_neg h0, h]
  simp only
  rw [scanP_fuel l.length ((l.drop k).length + 1) _ _ (by rw [List.length_drop]; omega) (by omega)]
/-- What was told ahead, and what comes. -/
def preP (ts : List Tok) : Except (Nat × Int) (List Tok) → Except (Nat × Int) (List Tok)
  | .ok r => .ok (ts ++ r)
  | .error e => .error e
theorem preP_tok (ts : List Tok) (t : Tok) (x : Except (Nat × Int) (List Tok)) : preP ts (match x with | .ok r => .ok (t :: r) | .error e => .error e) = preP (ts ++ [t]) x := by
  cases x <;> simp [preP]
end Go.Proofs.YtoahaigfjfeopaaGreatDoor

/- What scan's small functions compute. -/
namespace Go.Proofs.YtoahaigfjfeopaaGreatDoor
open Go.RowKit

theorem letter_any (c : Int) (w : World) (h0 : 0 ≤ c) (h1 : c ≤ 255) : Calls Tryz.prog 97 #[.int .u8 c] w fun e w' => e = .returned (.bool (decide (97 ≤ c) && decide (c ≤ 122))) ∧ w = w' := by
  by_cases h : 97 ≤ c
  · go_enter Tryz.func97, Tryz.ntmps97
    go_wp2
    go_ret
    exact ⟨ret_bool (by simp [h]), rfl⟩
  · go_enter Tryz.func97, Tryz.ntmps97
    go_wp2
    go_ret
    exact ⟨ret_bool (by simp; omega), rfl⟩
theorem digit_any (c : Int) (w : World) (h0 : 0 ≤ c) (h1 : c ≤ 255) : Calls Tryz.prog 98 #[.int .u8 c] w fun e w' => e = .returned (.bool (decide (48 ≤ c) && decide (c ≤ 57))) ∧ w = w' := by
  by_cases h : 48 ≤ c
  · go_enter Tryz.func98, Tryz.ntmps98
    go_wp2
    go_ret
    exact ⟨ret_bool (by simp [h]), rfl⟩
  · go_enter Tryz.func98, Tryz.ntmps98
    go_wp2
    go_ret
    exact ⟨ret_bool (by simp; omega), rfl⟩
theorem eol_any (c : Int) (w : World) : Calls Tryz.prog 96 #[.int .u8 c] w fun e w' => e = .returned (.bool (c != 10)) ∧ w = w' := by
  go_enter Tryz.func96, Tryz.ntmps96
  go_wp2
  go_ret
  exact ⟨rfl, rfl⟩
theorem letter_u (c : UInt8) (w : World) : Calls Tryz.prog 97 #[.int .u8 (c.toNat : Int)] w fun e w' => e = .returned (.bool (isLetter c)) ∧ w = w' := by
  have := c.toNat_lt
  refine (letter_any c.toNat w (by omega) (by omega)).mono ?_
  rintro e w' ⟨rfl, rfl⟩
  exact ⟨ret_bool (by unfold isLetter; congr 1 <;> (rw [decide_eq_decide]; omega)), rfl⟩
theorem digit_u (c : UInt8) (w : World) : Calls Tryz.prog 98 #[.int .u8 (c.toNat : Int)] w fun e w' => e = .returned (.bool (isDigit c)) ∧ w = w' := by
  have := c.toNat_lt
  refine (digit_any c.toNat w (by omega) (by omega)).mono ?_
  rintro e w' ⟨rfl, rfl⟩
  exact ⟨ret_bool (by unfold isDigit; congr 1 <;> (rw [decide_eq_decide]; omega)), rfl⟩
theorem eol_u (c : UInt8) (w : World) : Calls Tryz.prog 96 #[.int .u8 (c.toNat : Int)] w fun e w' => e = .returned (.bool (notEol c)) ∧ w = w' := by
  refine (eol_any c.toNat w).mono ?_
  rintro e w' ⟨rfl, rfl⟩
  refine ⟨ret_bool ?_, rfl⟩
  unfold notEol
  by_cases h : c.toNat = 10
  · simp [h]
  · have h' : ¬ (c.toNat : Int) = 10 := by omega
    simp [h, h']
theorem byte_nth (l : List UInt8) (k : Nat) (h : k < l.length) : ∀ h', (ByteArray.mk l.toArray)[k]'h' = nth 0 l k := by
  intro h'
  have e : (ByteArray.mk l.toArray)[k]'h' = l[k] := by simp [ByteArray.getElem_eq_getElem_data]
  rw [e]
  simp [nth, List.getD_eq_getElem?_getD, List.getElem?_eq_getElem h]
theorem run_letter (l : List UInt8) (w : World) (hl : l.length ≤ 140737488355328) : Calls Tryz.prog 95 #[.string ⟨l.toArray⟩, .func (.func 97) #[] #[]] w fun e w' => e = .returned (.int .i64 (runP isLetter l)) ∧ w = w' := by
  go_enter Tryz.func95, Tryz.ntmps95
  go_wp2
  go_loop [5] (fun i => ∃ k : Nat, i = .int .i64 k ∧ k ≤ l.length ∧ Hid (runP isLetter l = k + runP isLetter (l.drop k))) (fun i => l.length - (intOf i).toNat)
  case atStart => exact ⟨0, rfl, by omega, Lib.hid (by simp)⟩
  case round =>
    obtain ⟨k, rfl, hk, H⟩ := hrel
    by_cases hlt : k < l.length
    · have H' := Lib.hid (runP_drop isLetter l k hlt)
      cases hp : isLetter (nth 0 l k)
      · go_wp2_with (go_at_call 97; refine (letter_u _ _).mono ?_; rintro e w' ⟨rfl, rfl⟩; simp only [byte_nth l k hlt, hp])
        go_ret
        exact ⟨ret_int (by rw [H.out, H'.out, hp]; simp), rfl⟩
      · go_wp2_with (go_at_call 97; refine (letter_u _ _).mono ?_; rintro e w' ⟨rfl, rfl⟩; simp only [byte_nth l k hlt, hp])
        go_round
        case rel => exact ⟨k + 1, by go_num, by omega, Lib.hid (by rw [H.out, H'.out, hp]; simp; omega)⟩
        case measure => simp [intOf]; omega
    · go_wp2
      go_ret
      exact ⟨ret_int (by rw [H.out, List.drop_eq_nil_of_le (by omega)]; simp [runP]), rfl⟩
theorem run_digit (l : List UInt8) (w : World) (hl : l.length ≤ 140737488355328) : Calls Tryz.prog 95 #[.string ⟨l.toArray⟩, .func (.func 98) #[] #[]] w fun e w' => e = .returned (.int .i64 (runP isDigit l)) ∧ w = w' := by
  go_enter Tryz.func95, Tryz.ntmps95
  go_wp2
  go_loop [5] (fun i => ∃ k : Nat, i = .int .i64 k ∧ k ≤ l.length ∧ Hid (runP isDigit l = k + runP isDigit (l.drop k))) (fun i => l.length - (intOf i).toNat)
  case atStart => exact ⟨0, rfl, by omega, Lib.hid (by simp)⟩
  case round =>
    obtain ⟨k, rfl, hk, H⟩ := hrel
    by_cases hlt : k < l.length
    · have H' := Lib.hid (runP_drop isDigit l k hlt)
      cases hp : isDigit (nth 0 l k)
      · go_wp2_with (go_at_call 98; refine (digit_u _ _).mono ?_; rintro e w' ⟨rfl, rfl⟩; simp only [byte_nth l k hlt, hp])
        go_ret
        exact ⟨ret_int (by rw [H.out, H'.out, hp]; simp), rfl⟩
      · go_wp2_with (go_at_call 98; refine (digit_u _ _).mono ?_; rintro e w' ⟨rfl, rfl⟩; simp only [byte_nth l k hlt, hp])
        go_round
        case rel => exact ⟨k + 1, by go_num, by omega, Lib.hid (by rw [H.out, H'.out, hp]; simp; omega)⟩
        case measure => simp [intOf]; omega
    · go_wp2
      go_ret
      exact ⟨ret_int (by rw [H.out, List.drop_eq_nil_of_le (by omega)]; simp [runP]), rfl⟩
theorem run_eol (l : List UInt8) (w : World) (hl : l.length ≤ 140737488355328) : Calls Tryz.prog 95 #[.string ⟨l.toArray⟩, .func (.func 96) #[] #[]] w fun e w' => e = .returned (.int .i64 (runP notEol l)) ∧ w = w' := by
  go_enter Tryz.func95, Tryz.ntmps95
  go_wp2
  go_loop [5] (fun i => ∃ k : Nat, i = .int .i64 k ∧ k ≤ l.length ∧ Hid (runP notEol l = k + runP notEol (l.drop k))) (fun i => l.length - (intOf i).toNat)
  case atStart => exact ⟨0, rfl, by omega, Lib.hid (by simp)⟩
  case round =>
    obtain ⟨k, rfl, hk, H⟩ := hrel
    by_cases hlt : k < l.length
    · have H' := Lib.hid (runP_drop notEol l k hlt)
      cases hp : notEol (nth 0 l k)
      · go_wp2_with (go_at_call 96; refine (eol_u _ _).mono ?_; rintro e w' ⟨rfl, rfl⟩; simp only [byte_nth l k hlt, hp])
        go_ret
        exact ⟨ret_int (by rw [H.out, H'.out, hp]; simp), rfl⟩
      · go_wp2_with (go_at_call 96; refine (eol_u _ _).mono ?_; rintro e w' ⟨rfl, rfl⟩; simp only [byte_nth l k hlt, hp])
        go_round
        case rel => exact ⟨k + 1, by go_num, by omega, Lib.hid (by rw [H.out, H'.out, hp]; simp; omega)⟩
        case measure => simp [intOf]; omega
    · go_wp2
      go_ret
      exact ⟨ret_int (by rw [H.out, List.drop_eq_nil_of_le (by omega)]; simp [runP]), rfl⟩

theorem indexByte_any (l : List UInt8) (c : UInt8) (w : World) : Calls Tryz.prog 94 #[.string ⟨l.toArray⟩, .int .u8 (c.toNat : Int)] w fun e w' => e = .returned (.int .i64 (Lib.indexByte l c)) ∧ w = w' := by
  refine (Tryz.strings_IndexByte ⟨l.toArray⟩ c.toNat w).mono ?_
  rintro e w' ⟨rfl, rfl⟩
  exact ⟨ret_int (by simp), rfl⟩
end Go.Proofs.YtoahaigfjfeopaaGreatDoor

/- scan.left, number and token. -/
namespace Go.Proofs.YtoahaigfjfeopaaGreatDoor
open Go.RowKit

def isBlank (c : UInt8) : Bool := decide (c.toNat = 32 ∨ c.toNat = 9 ∨ c.toNat = 10)
def isSign (c : UInt8) : Bool := decide (c.toNat = 58 ∨ c.toNat = 44 ∨ c.toNat = 59)
theorem u8_eq (c : UInt8) (k : Nat) (hk : k < 256) : (UInt8.ofNat k == c) = decide (c.toNat = k) := by
  rw [Bool.eq_iff_iff, beq_iff_eq, decide_eq_true_iff]
  constructor
  · intro h; rw [← h]; simp; omega
  · intro h; rw [← h]; simp
theorem index_three (a b d : Nat) (ha : a < 256) (hb : b < 256) (hd : d < 256) (c : UInt8) : decide (0 ≤ Lib.indexByte [UInt8.ofNat a, UInt8.ofNat b, UInt8.ofNat d] c) = decide (c.toNat = a ∨ c.toNat = b ∨ c.toNat = d) := by
  simp only [Lib.indexByte, u8_eq c _ ha, u8_eq c _ hb, u8_eq c _ hd]
  by_cases h1 : c.toNat = a
  · simp [h1]
  · by_cases h2 : c.toNat = b
    · subst h2; simp [h1]
    · by_cases h3 : c.toNat = d
      · subst h3; simp [h1, h2]
      · simp [h1, h2, h3]
theorem index_blank (c : UInt8) : decide (0 ≤ Lib.indexByte [32, 9, 10] c) = isBlank c := index_three 32 9 10 (by omega) (by omega) (by omega) c
theorem index_sign (c : UInt8) : decide (0 ≤ Lib.indexByte [58, 44, 59] c) = isSign c := index_three 58 44 59 (by omega) (by omega) (by omega) c

/-- What ParseInt's errors are made of. -/
structure Env0 (w : World) : Prop where
  syn : ∃ tp p, w.var? Tryz.prog "strconv.ErrSyntax" = some #[.iface tp p]
  rng : ∃ tp p, w.var? Tryz.prog "strconv.ErrRange" = some #[.iface tp p]

theorem var_kept {P : Program} {w w' : World} {B : Nat} {name : String} {g : Nat} (hg : P.globalNamed name = some g) (hB : g < B) (hb : Below B w w') : w'.var? P name = w.var? P name := by
  simp only [World.var?, hg, Option.bind_some]
  rw [hb.block g hB]
theorem Env0.below {w w' : World} {B : Nat} (h : Env0 w) (hb : Below B w w') (hB : 8 ≤ B) : Env0 w' where
  syn := by obtain ⟨tp, p, h1⟩ := h.syn; exact ⟨tp, p, (var_kept (g := 4) (by kernel_rfl) (by omega) hb).trans h1⟩
  rng := by obtain ⟨tp, p, h1⟩ := h.rng; exact ⟨tp, p, (var_kept (g := 5) (by kernel_rfl) (by omega) hb).trans h1⟩

set_option maxRecDepth 100000 in
theorem left_any (c : UInt8) (r : List UInt8) (w : World) (hl : (c :: r).length ≤ 140737488355328) : Calls Tryz.prog 67 #[.string ⟨(c :: r).toArray⟩] w fun e w' => e = .returned (.int .i64 (leftP (c :: r))) ∧ w = w' := by
  have hb : ∀ h', (ByteArray.mk (c :: r).toArray)[0]'h' = c := byte_nth (c :: r) 0 (by simp)
  have hi := Lib.hid (index_blank c)
  have HP : Hid (leftP (c :: r) = if isBlank c = true then 1 else if c.toNat = 35 then runP notEol (c :: r) else 0) := Lib.hid (by simp [leftP, isBlank])
  have h0 : 0 < (c :: r).length := by simp
  generalize c :: r = l at *
  have hrun := Lib.hid (run_eol l w hl)
  cases hbl : isBlank c
  · have hi' : ¬ 0 ≤ Lib.indexByte [32, 9, 10] c := of_decide_eq_false (hi.out.trans hbl)
    by_cases h35 : c.toNat = 35
    · have hq : ((c.toNat : Int) == 35) = true := by simp; omega
      have H35 := Lib.hid h35
      clear h35
      go_enter Tryz.func67, Tryz.ntmps67
      go_wp2_with (first
        | (go_at_call 94; refine (indexByte_any [32, 9, 10] _ _).mono ?_; rintro e w' ⟨rfl, rfl⟩)
        | (go_at_call 95; refine hrun.out.mono ?_; rintro e w' ⟨rfl, rfl⟩))
      go_ret
      exact ⟨ret_int (by rw [HP.out, if_neg (by rw [hbl]; decide), if_pos H35.out]), rfl⟩
    · have hq : ((c.toNat : Int) == 35) = false := by simp; omega
      go_enter Tryz.func67, Tryz.ntmps67
      go_wp2_with (first
        | (go_at_call 94; refine (indexByte_any [32, 9, 10] _ _).mono ?_; rintro e w' ⟨rfl, rfl⟩)
        | (go_at_call 95; refine hrun.out.mono ?_; rintro e w' ⟨rfl, rfl⟩))
      go_ret
      exact ⟨ret_int (by rw [HP.out, if_neg (by rw [hbl]; decide), if_neg h35]; rfl), rfl⟩
  · have hi' : 0 ≤ Lib.indexByte [32, 9, 10] c := of_decide_eq_true (hi.out.trans hbl)
    have Hbl := Lib.hid hbl
    clear hbl
    go_enter Tryz.func67, Tryz.ntmps67
    go_wp2_with (first
      | (go_at_call 94; refine (indexByte_any [32, 9, 10] _ _).mono ?_; rintro e w' ⟨rfl, rfl⟩)
      | (go_at_call 95; refine hrun.out.mono ?_; rintro e w' ⟨rfl, rfl⟩))
    go_ret
    exact ⟨ret_int (by rw [HP.out, if_pos Hbl.out]; rfl), rfl⟩

theorem trim_minus (l : List UInt8) : Lib.trimPrefix l [45] = l.drop (if l.head? = some 45 then 1 else 0) := by
  cases l with
  | nil => simp [Lib.trimPrefix, Lib.hasPrefix]
  | cons c r =>
    by_cases h : c = 45
    · subst h; simp [Lib.trimPrefix, Lib.hasPrefix]
    · have h' : ¬ 45 = c := fun e => h e.symm
      simp [Lib.trimPrefix, Lib.hasPrefix, h, h']
theorem extract_take (l : List UInt8) (k : Nat) : (ByteArray.mk l.toArray).extract 0 k = ByteArray.mk (l.take k).toArray := by
  apply ByteArray.ext
  apply Array.ext'
  simp
theorem extract_drop (l : List UInt8) (k : Nat) : (ByteArray.mk l.toArray).extract k l.length = ByteArray.mk (l.drop k).toArray := by
  apply ByteArray.ext
  apply Array.ext'
  simp [List.take_of_length_le]

theorem below_bytes {w w' : World} (h : w' = w ∨ ∃ t, w' = Lib.bytesWorld w 5 t) : Below w.heap.size w w' := by
  rcases h with rfl | ⟨t, rfl⟩
  · exact Below.refl _ _
  · exact Lib.bytesWorld_below w _ t
theorem parse_ok (l : List UInt8) (v : Int) (w : World) (hl : l.length ≤ 140737488355328) (h : Lib.parseIntB 64 l = .ok v) :
    Calls Tryz.prog 116 #[.string ⟨l.toArray⟩, .int .i64 10, .int .i64 64] w fun e w' => e = .returned (.tuple #[.int .i64 v, .nilIface]) ∧ Below w.heap.size w w' :=
  (Tryz.strconv_ParseInt_10_at64_ok ⟨l.toArray⟩ (by rw [show (ByteArray.mk l.toArray).size = l.length by simp [ByteArray.size]]; omega) v h w).mono fun _ _ ⟨he, hb⟩ => ⟨he, below_bytes hb⟩
theorem parse_bad (l : List UInt8) (w : World) (hl : l.length ≤ 140737488355328) (hE : Env0 w) (h : Lib.parseIntB 64 l = Lib.parseIntB 64 [] ∨ Lib.parseIntB 64 l = .range) :
    Calls Tryz.prog 116 #[.string ⟨l.toArray⟩, .int .i64 10, .int .i64 64] w fun e w' => ∃ x N, e = .returned (.tuple #[.int .i64 x, .iface 157 (.pointer (some ⟨N, 0, none⟩))]) ∧ Below w.heap.size w w' := by
  have hs : (ByteArray.mk l.toArray).size ≤ 281474976710656 := by rw [show (ByteArray.mk l.toArray).size = l.length by simp [ByteArray.size]]; omega
  rcases h with h | h
  · obtain ⟨tp, p, hv⟩ := hE.syn
    refine (Tryz.strconv_ParseInt_10_at64_syntax_var ⟨l.toArray⟩ hs h tp p w hv).mono ?_
    rintro e w' ⟨N, rfl, _, _, hb⟩
    exact ⟨_, N, rfl, hb⟩
  · obtain ⟨tp, p, hv⟩ := hE.rng
    refine (Tryz.strconv_ParseInt_10_at64_range_var ⟨l.toArray⟩ hs h tp p w hv).mono ?_
    rintro e w' ⟨N, rfl, _, _, hb⟩
    exact ⟨_, N, rfl, hb⟩

/-- What scan.number answers. -/
def numR (l : List UInt8) : Value := match numP l with | .ok (n, k) => .tuple #[.int .i64 n, .int .i64 k, .int .i64 0] | .error x => .tuple #[.int .i64 0, .int .i64 0, .int .i64 x]

set_option maxRecDepth 100000 in
theorem number_any (l : List UInt8) (w : World) (hE : Env0 w) (hl : l.length ≤ 140737488355328) : Calls Tryz.prog 99 #[.string ⟨l.toArray⟩] w fun e w' => e = .returned (numR l) ∧ Below w.heap.size w w' := by
  obtain ⟨m, hm⟩ : ∃ m, (if l.head? = some 45 then 1 else 0) = m := ⟨_, rfl⟩
  obtain ⟨d, hd⟩ : ∃ d, l.drop m = d := ⟨_, rfl⟩
  have htr : Hid (∀ W, Calls Tryz.prog 115 #[.string ⟨l.toArray⟩, .string ⟨[45].toArray⟩] W fun e w' => e = .returned (.string ⟨d.toArray⟩) ∧ W = w') := by
    apply Lib.hid
    intro W
    refine (Tryz.strings_TrimPrefix ⟨l.toArray⟩ ⟨[45].toArray⟩ W).mono ?_
    rintro e w' ⟨rfl, rfl⟩
    exact ⟨ret_str (by rw [show (ByteArray.mk l.toArray).data.toList = l from rfl, show (ByteArray.mk [45].toArray).data.toList = [45] from rfl, trim_minus, hm, hd]), rfl⟩
  have hm1 : m ≤ 1 := by rw [← hm]; split <;> omega
  have hml : m ≤ l.length := by rw [← hm]; cases l <;> simp; split <;> omega
  have hdl : d.length + m = l.length := by rw [← hd, List.length_drop]; omega
  have hdl1 : d.length ≤ 140737488355328 := by omega
  have hrun0 := run_digit d w hdl1
  have hrl := runP_le isDigit d
  obtain ⟨k, hk⟩ : ∃ k, runP isDigit d = k := ⟨_, rfl⟩
  rw [hk] at hrun0 hrl
  have hrun := Lib.hid hrun0
  obtain ⟨ds, hds⟩ : ∃ ds, d.take k = ds := ⟨_, rfl⟩
  have hex : (ByteArray.mk d.toArray).extract 0 k = ByteArray.mk ds.toArray := by rw [extract_take, hds]
  have hdsl : ds.length = k := by rw [← hds, List.length_take]; omega
  have hnum : numP l = (if ds = [] ∨ ds.head? = some 48 ∧ 1 < ds.length + m then .error 2 else match Lib.parseIntB 64 (l.take (m + ds.length)) with | .ok v => if 1000000000000 < v ∨ v < -1000000000000 then .error 4 else .ok (v, m + ds.length) | _ => .error 4) := by
    (unfold numP; rw [hm]; show (if _ then _ else _) = _; simp only [hd, hk, hds]; try rfl)
  obtain ⟨nm, hnm⟩ : ∃ nm, l.take (m + ds.length) = nm := ⟨_, rfl⟩
  have hex2 : (ByteArray.mk l.toArray).extract 0 (m + ds.length) = ByteArray.mk nm.toArray := by rw [extract_take, hnm]
  have hml2 : m + ds.length ≤ l.length := by omega
  have hnml : nm.length ≤ 140737488355328 := by rw [← hnm, List.length_take]; omega
  rw [hnm] at hnum
  have hms : (l.length : Int) - (d.length : Int) = (m : Int) := by omega
  have HN := Lib.hid hnum
  have hkd : k ≤ d.length := hrl
  have HE := Lib.hid hE
  have hdsl1 : ds.length ≤ k := by omega
  have hdsl2 : k ≤ ds.length := by omega
  clear hm hd hdl hrl hk hds hdsl hnum hnm hrun0 hE
  cases ds with
  | nil =>
    go_enter Tryz.func99, Tryz.ntmps99
    go_wp2_with (first
      | (go_at_call 115; refine (htr.out _).mono ?_; rintro e w' ⟨rfl, rfl⟩)
      | (go_at_call 95; refine hrun.out.mono ?_; rintro e w' ⟨rfl, rfl⟩))
    go_ret3
    exact ⟨by unfold numR; rw [HN.out]; rfl, Below.refl _ _⟩
  | cons a r =>
    rw [List.length_cons] at hex2 hml2 hdsl1 hdsl2
    have ha : ∀ h', (ByteArray.mk (a :: r).toArray)[0]'h' = a := byte_nth (a :: r) 0 (by simp)
    by_cases hz : a.toNat = 48 ∧ 1 < (a :: r).length + m
    · obtain ⟨hz1, hz2⟩ := hz
      have hq : ((a.toNat : Int) == 48) = true := by simp; omega
      have hq2 : 1 < r.length + 1 + m := by simpa using hz2
      have HZ : Hid (numP l = .error 2) := Lib.hid (by
        have e : a = 48 := UInt8.toNat_inj.1 hz1
        rw [HN.out, if_pos (.inr ⟨by rw [e]; rfl, hz2⟩)])
      clear hz1 hz2
      go_enter Tryz.func99, Tryz.ntmps99
      go_wp2_with (first
        | (go_at_call 115; refine (htr.out _).mono ?_; rintro e w' ⟨rfl, rfl⟩)
        | (go_at_call 95; refine hrun.out.mono ?_; rintro e w' ⟨rfl, rfl⟩))
      go_ret3
      exact ⟨by unfold numR; rw [HZ.out]; rfl, Below.refl _ _⟩
    · have hN : numP l = match Lib.parseIntB 64 nm with | .ok v => if 1000000000000 < v ∨ v < -1000000000000 then .error 4 else .ok (v, m + (a :: r).length) | _ => .error 4 := by
        rw [HN.out, if_neg]
        rintro (h | ⟨h, h2⟩)
        · cases h
        · apply hz
          rw [List.head?_cons] at h
          injection h with h
          exact ⟨by rw [h]; rfl, h2⟩
      have HN' := Lib.hid hN
      have hzz : (a.toNat : Int) = 48 → (r.length : Int) + 1 + m ≤ 1 := by
        intro h
        have : ¬ 1 < (a :: r).length + m := fun h2 => hz ⟨by omega, h2⟩
        rw [List.length_cons] at this
        omega
      clear hz hN
      by_cases hz : a.toNat = 48
      · have hq : ((a.toNat : Int) == 48) = true := by simp; omega
        have hzl := hzz (by omega)
        clear hzz hz
        cases hp : Lib.parseIntB 64 nm with
        | ok v =>
          have hpi := Lib.hid (parse_ok nm v w (by omega) hp)
          by_cases hv : 1000000000000 < v ∨ v < -1000000000000
          · have HZ : Hid (numR l = .tuple #[.int .i64 0, .int .i64 0, .int .i64 4]) := Lib.hid (by unfold numR; rw [HN'.out, hp]; simp only [if_pos hv])
            clear hp HN'
            go_enter Tryz.func99, Tryz.ntmps99
            go_wp2_with (first
              | (go_at_call 115; refine (htr.out _).mono ?_; rintro e w' ⟨rfl, rfl⟩)
              | (go_at_call 95; refine hrun.out.mono ?_; rintro e w' ⟨rfl, rfl⟩)
              | (go_at_call 116; refine hpi.out.mono ?_; rintro e w' ⟨rfl, hb⟩; have hb' := Lib.hid hb; clear hb))
            all_goals first | (exfalso; omega) | skip
            all_goals go_ret3
            all_goals exact ⟨by rw [HZ.out]; rfl, hb'.out⟩
          · have HZ : Hid (numR l = .tuple #[.int .i64 v, .int .i64 ((m + (r.length + 1) : Nat) : Int), .int .i64 0]) := Lib.hid (by unfold numR; rw [HN'.out, hp]; simp only [if_neg hv]; rfl)
            have hv1 : v ≤ 1000000000000 := by omega
            have hv2 : -1000000000000 ≤ v := by omega
            clear hp HN' hv
            go_enter Tryz.func99, Tryz.ntmps99
            go_wp2_with (first
              | (go_at_call 115; refine (htr.out _).mono ?_; rintro e w' ⟨rfl, rfl⟩)
              | (go_at_call 95; refine hrun.out.mono ?_; rintro e w' ⟨rfl, rfl⟩)
              | (go_at_call 116; refine hpi.out.mono ?_; rintro e w' ⟨rfl, hb⟩; have hb' := Lib.hid hb; clear hb))
            go_ret3
            exact ⟨by rw [HZ.out]; go_num, hb'.out⟩
        | range =>
          have hpi := Lib.hid (parse_bad nm w (by omega) HE.out (.inr hp))
          have HZ : Hid (numR l = .tuple #[.int .i64 0, .int .i64 0, .int .i64 4]) := Lib.hid (by unfold numR; rw [HN'.out, hp])
          clear hp HN'
          go_enter Tryz.func99, Tryz.ntmps99
          go_wp2_with (first
            | (go_at_call 115; refine (htr.out _).mono ?_; rintro e w' ⟨rfl, rfl⟩)
            | (go_at_call 95; refine hrun.out.mono ?_; rintro e w' ⟨rfl, rfl⟩)
            | (go_at_call 116; refine hpi.out.mono ?_; rintro e w' ⟨x, N, rfl, hb⟩; have hb' := Lib.hid hb; clear hb))
          go_ret3
          exact ⟨by rw [HZ.out]; rfl, hb'.out⟩
        | _ =>
          have hpi := Lib.hid (parse_bad nm w (by omega) HE.out (.inl hp))
          have HZ : Hid (numR l = .tuple #[.int .i64 0, .int .i64 0, .int .i64 4]) := Lib.hid (by unfold numR; rw [HN'.out, hp])
          clear hp HN'
          go_enter Tryz.func99, Tryz.ntmps99
          go_wp2_with (first
            | (go_at_call 115; refine (htr.out _).mono ?_; rintro e w' ⟨rfl, rfl⟩)
            | (go_at_call 95; refine hrun.out.mono ?_; rintro e w' ⟨rfl, rfl⟩)
            | (go_at_call 116; refine hpi.out.mono ?_; rintro e w' ⟨x, N, rfl, hb⟩; have hb' := Lib.hid hb; clear hb))
          go_ret3
          exact ⟨by rw [HZ.out]; rfl, hb'.out⟩
      · have hq : ((a.toNat : Int) == 48) = false := by simp; omega
        clear hzz hz
        cases hp : Lib.parseIntB 64 nm with
        | ok v =>
          have hpi := Lib.hid (parse_ok nm v w (by omega) hp)
          by_cases hv : 1000000000000 < v ∨ v < -1000000000000
          · have HZ : Hid (numR l = .tuple #[.int .i64 0, .int .i64 0, .int .i64 4]) := Lib.hid (by unfold numR; rw [HN'.out, hp]; simp only [if_pos hv])
            clear hp HN'
            go_enter Tryz.func99, Tryz.ntmps99
            go_wp2_with (first
              | (go_at_call 115; refine (htr.out _).mono ?_; rintro e w' ⟨rfl, rfl⟩)
              | (go_at_call 95; refine hrun.out.mono ?_; rintro e w' ⟨rfl, rfl⟩)
              | (go_at_call 116; refine hpi.out.mono ?_; rintro e w' ⟨rfl, hb⟩; have hb' := Lib.hid hb; clear hb))
            all_goals first | (exfalso; omega) | skip
            all_goals go_ret3
            all_goals exact ⟨by rw [HZ.out]; rfl, hb'.out⟩
          · have HZ : Hid (numR l = .tuple #[.int .i64 v, .int .i64 ((m + (r.length + 1) : Nat) : Int), .int .i64 0]) := Lib.hid (by unfold numR; rw [HN'.out, hp]; simp only [if_neg hv]; rfl)
            have hv1 : v ≤ 1000000000000 := by omega
            have hv2 : -1000000000000 ≤ v := by omega
            clear hp HN' hv
            go_enter Tryz.func99, Tryz.ntmps99
            go_wp2_with (first
              | (go_at_call 115; refine (htr.out _).mono ?_; rintro e w' ⟨rfl, rfl⟩)
              | (go_at_call 95; refine hrun.out.mono ?_; rintro e w' ⟨rfl, rfl⟩)
              | (go_at_call 116; refine hpi.out.mono ?_; rintro e w' ⟨rfl, hb⟩; have hb' := Lib.hid hb; clear hb))
            go_ret3
            exact ⟨by rw [HZ.out]; go_num, hb'.out⟩
        | range =>
          have hpi := Lib.hid (parse_bad nm w (by omega) HE.out (.inr hp))
          have HZ : Hid (numR l = .tuple #[.int .i64 0, .int .i64 0, .int .i64 4]) := Lib.hid (by unfold numR; rw [HN'.out, hp])
          clear hp HN'
          go_enter Tryz.func99, Tryz.ntmps99
          go_wp2_with (first
            | (go_at_call 115; refine (htr.out _).mono ?_; rintro e w' ⟨rfl, rfl⟩)
            | (go_at_call 95; refine hrun.out.mono ?_; rintro e w' ⟨rfl, rfl⟩)
            | (go_at_call 116; refine hpi.out.mono ?_; rintro e w' ⟨x, N, rfl, hb⟩; have hb' := Lib.hid hb; clear hb))
          go_ret3
          exact ⟨by rw [HZ.out]; rfl, hb'.out⟩
        | _ =>
          have hpi := Lib.hid (parse_bad nm w (by omega) HE.out (.inl hp))
          have HZ : Hid (numR l = .tuple #[.int .i64 0, .int .i64 0, .int .i64 4]) := Lib.hid (by unfold numR; rw [HN'.out, hp])
          clear hp HN'
          go_enter Tryz.func99, Tryz.ntmps99
          go_wp2_with (first
            | (go_at_call 115; refine (htr.out _).mono ?_; rintro e w' ⟨rfl, rfl⟩)
            | (go_at_call 95; refine hrun.out.mono ?_; rintro e w' ⟨rfl, rfl⟩)
            | (go_at_call 116; refine hpi.out.mono ?_; rintro e w' ⟨x, N, rfl, hb⟩; have hb' := Lib.hid hb; clear hb))
          go_ret3
          exact ⟨by rw [HZ.out]; rfl, hb'.out⟩
end Go.Proofs.YtoahaigfjfeopaaGreatDoor

/- scan.token. -/
namespace Go.Proofs.YtoahaigfjfeopaaGreatDoor
open Go.RowKit

def tokV (t : Tok) : Value := .agg #[.int .i64 t.kind, .string ⟨t.text.toArray⟩, .int .i64 t.n, .int .i64 t.at_]
/-- What scan.token answers. -/
def TokPost (l : List UInt8) (e : Ending) : Prop :=
  match tokenP l with
  | .ok (t, k) => e = .returned (.tuple #[tokV t, .int .i64 k, .int .i64 0])
  | .error x => ∃ t, e = .returned (.tuple #[tokV t, .int .i64 0, .int .i64 x])

set_option maxRecDepth 100000 in
theorem token_sign (c : UInt8) (r : List UInt8) (w : World) (hl : (c :: r).length ≤ 140737488355328) (hs : isSign c = true) : Calls Tryz.prog 68 #[.string ⟨(c :: r).toArray⟩] w fun e w' => TokPost (c :: r) e ∧ Below w.heap.size w w' := by
  have hP : tokenP (c :: r) = .ok (⟨3, [c], 0, 0⟩, 1) := by
    simp only [tokenP]; rw [if_pos (of_decide_eq_true hs)]
  have hb : ∀ h', (ByteArray.mk (c :: r).toArray)[0]'h' = c := byte_nth (c :: r) 0 (by simp)
  have hi : 0 ≤ Lib.indexByte [58, 44, 59] c := of_decide_eq_true ((index_sign c).trans hs)
  have hx : (ByteArray.mk (c :: r).toArray).extract 0 1 = ByteArray.mk [c].toArray := by rw [extract_take]; rfl
  have h0 : 1 ≤ (c :: r).length := by simp
  have HP : Hid (∀ e, TokPost (c :: r) e ↔ e = .returned (.tuple #[.agg #[.int .i64 3, .string ⟨[c].toArray⟩, .int .i64 0, .int .i64 0], .int .i64 1, .int .i64 0])) := Lib.hid (by intro e; unfold TokPost; rw [hP]; exact Iff.rfl)
  clear hs hP
  generalize c :: r = l at *
  go_enter Tryz.func68, Tryz.ntmps68
  go_wp2_with (go_at_call 94; refine (indexByte_any [58, 44, 59] _ _).mono ?_; rintro e w' ⟨rfl, rfl⟩)
  refine bodyPost_ret (v := .tuple #[.agg #[.int .i64 3, .string ⟨[c].toArray⟩, .int .i64 0, .int .i64 0], .int .i64 1, .int .i64 0]) (by simp [results, Tryz.results68, go_sem]) rfl ?_
  exact ⟨(HP.out _).2 rfl, (below_alloc1 _ _)⟩

theorem not_sign {c : UInt8} (h : isSign c = false) : ¬ (c.toNat = 58 ∨ c.toNat = 44 ∨ c.toNat = 59) := of_decide_eq_false h
set_option maxRecDepth 100000 in
theorem token_word (c : UInt8) (r : List UInt8) (w : World) (hl : (c :: r).length ≤ 140737488355328) (hs : isSign c = false) (hw : isLetter c = true) : Calls Tryz.prog 68 #[.string ⟨(c :: r).toArray⟩] w fun e w' => TokPost (c :: r) e ∧ Below w.heap.size w w' := by
  have hP : tokenP (c :: r) = .ok (⟨1, (c :: r).take (runP isLetter (c :: r)), 0, 0⟩, runP isLetter (c :: r)) := by
    simp only [tokenP]; rw [if_neg (not_sign hs), if_pos hw]
  have hb : ∀ h', (ByteArray.mk (c :: r).toArray)[0]'h' = c := byte_nth (c :: r) 0 (by simp)
  have hi : ¬ 0 ≤ Lib.indexByte [58, 44, 59] c := of_decide_eq_false ((index_sign c).trans hs)
  have h0 : 1 ≤ (c :: r).length := by simp
  have HP : Hid (∀ e, TokPost (c :: r) e ↔ e = .returned (.tuple #[.agg #[.int .i64 1, .string ⟨((c :: r).take (runP isLetter (c :: r))).toArray⟩, .int .i64 0, .int .i64 0], .int .i64 (runP isLetter (c :: r)), .int .i64 0])) := Lib.hid (by intro e; unfold TokPost; rw [hP]; exact Iff.rfl)
  clear hs hP
  generalize c :: r = l at *
  have hrun0 := fun W => run_letter l W hl
  have hrl := runP_le isLetter l
  have hex := extract_take l (runP isLetter l)
  generalize runP isLetter l = k at *
  have hrun := Lib.hid hrun0
  clear hrun0
  go_enter Tryz.func68, Tryz.ntmps68
  go_wp2_with (first
    | (go_at_call 94; refine (indexByte_any [58, 44, 59] _ _).mono ?_; rintro e w' ⟨rfl, rfl⟩)
    | (go_at_call 97; refine (letter_u _ _).mono ?_; rintro e w' ⟨rfl, rfl⟩; rw [hw])
    | (go_at_call 95; refine (hrun.out _).mono ?_; rintro e w' ⟨rfl, rfl⟩))
  refine bodyPost_ret (v := .tuple #[.agg #[.int .i64 1, .string ⟨(l.take k).toArray⟩, .int .i64 0, .int .i64 0], .int .i64 k, .int .i64 0]) (by simp [results, Tryz.results68, go_sem]) rfl ?_
  exact ⟨(HP.out _).2 rfl, (below_alloc1 _ _)⟩
set_option maxRecDepth 100000 in
theorem token_bad (c : UInt8) (r : List UInt8) (w : World) (hl : (c :: r).length ≤ 140737488355328) (hs : isSign c = false) (hw : isLetter c = false) (hd : isDigit c = false) (hm : ¬ c.toNat = 45) : Calls Tryz.prog 68 #[.string ⟨(c :: r).toArray⟩] w fun e w' => TokPost (c :: r) e ∧ Below w.heap.size w w' := by
  have hP : tokenP (c :: r) = .error 2 := by
    simp only [tokenP]; rw [if_neg (not_sign hs), if_neg (by rw [hw]; decide), if_neg (by rw [hd]; simpa using hm)]
  have hb : ∀ h', (ByteArray.mk (c :: r).toArray)[0]'h' = c := byte_nth (c :: r) 0 (by simp)
  have hi : ¬ 0 ≤ Lib.indexByte [58, 44, 59] c := of_decide_eq_false ((index_sign c).trans hs)
  have h0 : 1 ≤ (c :: r).length := by simp
  have hq : ((c.toNat : Int) == 45) = false := by simp; omega
  have HP : Hid (∀ e, TokPost (c :: r) e ↔ ∃ t, e = .returned (.tuple #[tokV t, .int .i64 0, .int .i64 2])) := Lib.hid (by intro e; unfold TokPost; rw [hP])
  clear hs hP hm
  generalize c :: r = l at *
  go_enter Tryz.func68, Tryz.ntmps68
  go_wp2_with (first
    | (go_at_call 94; refine (indexByte_any [58, 44, 59] _ _).mono ?_; rintro e w' ⟨rfl, rfl⟩)
    | (go_at_call 97; refine (letter_u _ _).mono ?_; rintro e w' ⟨rfl, rfl⟩; rw [hw])
    | (go_at_call 98; refine (digit_u _ _).mono ?_; rintro e w' ⟨rfl, rfl⟩; rw [hd]))
  refine bodyPost_ret (v := .tuple #[.agg #[.int .i64 0, .string ⟨#[]⟩, .int .i64 0, .int .i64 0], .int .i64 0, .int .i64 2]) (by simp [results, Tryz.results68, go_sem]) rfl ?_
  exact ⟨(HP.out _).2 ⟨⟨0, [], 0, 0⟩, rfl⟩, (below_alloc1 _ _)⟩
set_option maxRecDepth 100000 in
theorem token_num (c : UInt8) (r : List UInt8) (w : World) (hE : Env0 w) (h8 : 8 ≤ w.heap.size) (hl : (c :: r).length ≤ 140737488355328) (hs : isSign c = false) (hw : isLetter c = false) (hd : isDigit c = true ∨ c.toNat = 45) : Calls Tryz.prog 68 #[.string ⟨(c :: r).toArray⟩] w fun e w' => TokPost (c :: r) e ∧ Below w.heap.size w w' := by
  have hP : tokenP (c :: r) = match numP (c :: r) with | .ok (n, k) => .ok (⟨2, [], n, 0⟩, k) | .error e => .error e := by
    simp only [tokenP]; rw [if_neg (not_sign hs), if_neg (by rw [hw]; decide), if_pos hd]; try rfl
  have hb : ∀ h', (ByteArray.mk (c :: r).toArray)[0]'h' = c := byte_nth (c :: r) 0 (by simp)
  have hi : ¬ 0 ≤ Lib.indexByte [58, 44, 59] c := of_decide_eq_false ((index_sign c).trans hs)
  have h0 : 1 ≤ (c :: r).length := by simp
  have hq : isDigit c = false → ((c.toNat : Int) == 45) = true := by intro h; rcases hd with h' | h'; (rw [h] at h'; cases h'); simp [h']
  have HP : Hid (∃ n k x, numR (c :: r) = .tuple #[.int .i64 n, .int .i64 k, .int .i64 x] ∧ TokPost (c :: r) (.returned (.tuple #[.agg #[.int .i64 2, .string ⟨#[]⟩, .int .i64 n, .int .i64 0], .int .i64 k, .int .i64 x]))) := by
    apply Lib.hid
    unfold TokPost numR
    rw [hP]
    cases hn : numP (c :: r) with
    | ok p => obtain ⟨n, k⟩ := p; exact ⟨n, k, 0, rfl, rfl⟩
    | error x => exact ⟨0, 0, x, rfl, ⟨⟨2, [], 0, 0⟩, rfl⟩⟩
  clear hs hP hd
  have hE' : Env0 (w.alloc (.cells #[.int .i64 2, .string ⟨#[]⟩, .int .i64 0, .int .i64 0] 83)) := hE.below (below_alloc1 _ _) h8
  generalize c :: r = l at *
  obtain ⟨n, k, x, hn, hpost⟩ := HP.out
  have hcall0 := number_any l _ hE' hl
  rw [hn] at hcall0
  have hcall := Lib.hid hcall0
  have HQ := Lib.hid hpost
  clear hn hpost HP hcall0 hE'
  cases hdig : isDigit c
  · have hq' := hq hdig
    clear hq
    go_enter Tryz.func68, Tryz.ntmps68
    go_wp2_with (first
      | (go_at_call 94; refine (indexByte_any [58, 44, 59] _ _).mono ?_; rintro e w' ⟨rfl, rfl⟩)
      | (go_at_call 97; refine (letter_u _ _).mono ?_; rintro e w' ⟨rfl, rfl⟩; rw [hw])
      | (go_at_call 98; refine (digit_u _ _).mono ?_; rintro e w' ⟨rfl, rfl⟩; rw [hdig])
      | (go_at_call 99; refine hcall.out.mono ?_; rintro e W ⟨rfl, hb⟩; (have hblk := block_kept hb (heap_alloc_new w _)); (have c0 := cell_at hblk (i := 0) rfl); (have c1 := cell_at hblk (i := 1) rfl); (have c2 := cell_at hblk (i := 2) rfl); (have c3 := cell_at hblk (i := 3) rfl); (have f0 := Lib.frozen_of_heap hblk 0); (have f1 := Lib.frozen_of_heap hblk 1); (have f2 := Lib.frozen_of_heap hblk 2); (have f3 := Lib.frozen_of_heap hblk 3); (have hb' := Lib.hid hb); clear hb hblk))
    refine bodyPost_ret (v := .tuple #[.agg #[.int .i64 2, .string ⟨#[]⟩, .int .i64 n, .int .i64 0], .int .i64 k, .int .i64 x]) (by simp [results, Tryz.results68, go_sem, *]) rfl ?_
    refine ⟨HQ.out, ?_⟩
    have hbb := below_next (below_alloc1 w (.cells #[.int .i64 2, .string ⟨#[]⟩, .int .i64 0, .int .i64 0] 83)) hb'.out
    exact (((((hbb.setCell (p := ⟨w.heap.size, 2, none⟩) (Nat.le_refl _) _).setCell (p := ⟨w.heap.size, 0, none⟩) (Nat.le_refl _) _).setCell (p := ⟨w.heap.size, 1, none⟩) (Nat.le_refl _) _).setCell (p := ⟨w.heap.size, 2, none⟩) (Nat.le_refl _) _).setCell (p := ⟨w.heap.size, 3, none⟩) (Nat.le_refl _) _)
  · clear hq
    go_enter Tryz.func68, Tryz.ntmps68
    go_wp2_with (first
      | (go_at_call 94; refine (indexByte_any [58, 44, 59] _ _).mono ?_; rintro e w' ⟨rfl, rfl⟩)
      | (go_at_call 97; refine (letter_u _ _).mono ?_; rintro e w' ⟨rfl, rfl⟩; rw [hw])
      | (go_at_call 98; refine (digit_u _ _).mono ?_; rintro e w' ⟨rfl, rfl⟩; rw [hdig])
      | (go_at_call 99; refine hcall.out.mono ?_; rintro e W ⟨rfl, hb⟩; (have hblk := block_kept hb (heap_alloc_new w _)); (have c0 := cell_at hblk (i := 0) rfl); (have c1 := cell_at hblk (i := 1) rfl); (have c2 := cell_at hblk (i := 2) rfl); (have c3 := cell_at hblk (i := 3) rfl); (have f0 := Lib.frozen_of_heap hblk 0); (have f1 := Lib.frozen_of_heap hblk 1); (have f2 := Lib.frozen_of_heap hblk 2); (have f3 := Lib.frozen_of_heap hblk 3); (have hb' := Lib.hid hb); clear hb hblk))
    refine bodyPost_ret (v := .tuple #[.agg #[.int .i64 2, .string ⟨#[]⟩, .int .i64 n, .int .i64 0], .int .i64 k, .int .i64 x]) (by simp [results, Tryz.results68, go_sem, *]) rfl ?_
    refine ⟨HQ.out, ?_⟩
    have hbb := below_next (below_alloc1 w (.cells #[.int .i64 2, .string ⟨#[]⟩, .int .i64 0, .int .i64 0] 83)) hb'.out
    exact (((((hbb.setCell (p := ⟨w.heap.size, 2, none⟩) (Nat.le_refl _) _).setCell (p := ⟨w.heap.size, 0, none⟩) (Nat.le_refl _) _).setCell (p := ⟨w.heap.size, 1, none⟩) (Nat.le_refl _) _).setCell (p := ⟨w.heap.size, 2, none⟩) (Nat.le_refl _) _).setCell (p := ⟨w.heap.size, 3, none⟩) (Nat.le_refl _) _)

theorem token_any (c : UInt8) (r : List UInt8) (w : World) (hE : Env0 w) (h8 : 8 ≤ w.heap.size) (hl : (c :: r).length ≤ 140737488355328) : Calls Tryz.prog 68 #[.string ⟨(c :: r).toArray⟩] w fun e w' => TokPost (c :: r) e ∧ Below w.heap.size w w' := by
  cases hs : isSign c
  · cases hw : isLetter c
    · by_cases hd : isDigit c = true ∨ c.toNat = 45
      · exact token_num c r w hE h8 hl hs hw hd
      · have h1 : isDigit c = false := Bool.eq_false_iff.2 fun h => hd (.inl h)
        exact token_bad c r w hl hs hw h1 fun h => hd (.inr h)
    · exact token_word c r w hl hs hw
  · exact token_sign c r w hl hs
theorem token_ok (c : UInt8) (r : List UInt8) (w : World) (hE : Env0 w) (h8 : 8 ≤ w.heap.size) (hl : (c :: r).length ≤ 140737488355328) {t : Tok} {k : Nat} (h : tokenP (c :: r) = .ok (t, k)) :
    Calls Tryz.prog 68 #[.string ⟨(c :: r).toArray⟩] w fun e w' => e = .returned (.tuple #[.agg #[.int .i64 t.kind, .string ⟨t.text.toArray⟩, .int .i64 t.n, .int .i64 t.at_], .int .i64 k, .int .i64 0]) ∧ Below w.heap.size w w' := by
  refine (token_any c r w hE h8 hl).mono ?_
  rintro e w' ⟨hp, hb⟩
  unfold TokPost at hp
  rw [h] at hp
  exact ⟨hp, hb⟩
theorem token_err (c : UInt8) (r : List UInt8) (w : World) (hE : Env0 w) (h8 : 8 ≤ w.heap.size) (hl : (c :: r).length ≤ 140737488355328) {x : Int} (h : tokenP (c :: r) = .error x) :
    Calls Tryz.prog 68 #[.string ⟨(c :: r).toArray⟩] w fun e w' => (∃ k0 t0 n0 a0, e = .returned (.tuple #[.agg #[.int .i64 k0, .string t0, .int .i64 n0, .int .i64 a0], .int .i64 0, .int .i64 x])) ∧ Below w.heap.size w w' := by
  refine (token_any c r w hE h8 hl).mono ?_
  rintro e w' ⟨hp, hb⟩
  unfold TokPost at hp
  rw [h] at hp
  obtain ⟨t, hp⟩ := hp
  exact ⟨⟨_, _, _, _, hp⟩, hb⟩
end Go.Proofs.YtoahaigfjfeopaaGreatDoor

/- scan.All. -/
namespace Go.Proofs.YtoahaigfjfeopaaGreatDoor
open Go.RowKit

/-- A row of tokens. -/
abbrev kTok : Kd Tok := Kd.iso (Kd.pair (Kd.int .i64) (Kd.pair Kd.str (Kd.pair (Kd.int .i64) (Kd.int .i64)))) (fun t => (t.kind, ⟨t.text.toArray⟩, t.n, t.at_))
def tokC (t : Tok) : List Value := [.int .i64 t.kind, .string ⟨t.text.toArray⟩, .int .i64 t.n, .int .i64 t.at_]
theorem kTok_mk {w : World} {ok : Nat → Prop} (t : Tok) : kTok.K w ok t (tokC t) := ⟨[_], [_, _, _], rfl, rfl, [_], [_, _], rfl, rfl, [_], [_], rfl, rfl, rfl⟩

/-- A row of the call's own, of elements that lead nowhere: the tokens that are told so far. -/
def OwnTok (base : Nat) (v : Value) (ts : List Tok) (w : World) : Prop := w.ownsRow base 83 4 v ts.length (ts.flatMap tokC)
theorem flat_tok (ts : List Tok) : ∀ (j : Nat) (t : Tok), ts[j]? = some t → ∀ i u, (tokC t)[i]? = some u → (ts.flatMap tokC)[j * 4 + i]? = some u := by
  induction ts with
  | nil => intro j t h; simp at h
  | cons a r ih =>
    intro j t h i u hu
    rw [List.flatMap_cons]
    cases j with
    | zero =>
      simp at h; subst h
      have hi : i < (tokC a).length := (List.getElem?_eq_some_iff.1 hu).1
      rw [Nat.zero_mul, Nat.zero_add, List.getElem?_append_left hi]; exact hu
    | succ j =>
      simp at h
      rw [List.getElem?_append_right (by simp [tokC]; omega), show (j + 1) * 4 + i - (tokC a).length = j * 4 + i by simp [tokC]; omega]
      exact ih j t h i u hu
theorem OwnTok.sl {base : Nat} {v : Value} {ts : List Tok} {w : World} (h : OwnTok base v ts w) (hl : ts.length ≤ 140737488355328) : Sl kTok w (base ≤ ·) v ts := by
  rcases h.2 with ⟨rfl, h0⟩ | ⟨g, cap, cur, rfl, hb, hg, hnc, hcm, hcs, ht⟩
  · obtain rfl : ts = [] := List.eq_nil_of_length_eq_zero h0
    exact ⟨none, 0, rfl, Nat.le_refl _, by simp, fun j x hx => by simp at hx⟩
  · refine ⟨_, cap, rfl, hnc, hl, fun j t hj => ⟨g, 0, tokC t, rfl, hb, kTok_mk t, fun i u hu => ?_⟩⟩
    have hc := h.cells (g := g) rfl (j * 4 + i) u (flat_tok ts j t hj i u hu)
    have e : (⟨g, 0, none⟩ : Addr).add (j * 4 + i) = ⟨g, 0 + (j * 4 + i), none⟩ := by unfold Addr.add; split <;> simp_all
    rw [e] at hc
    exact hc

theorem own_lower {w : World} {base base' : Nat} {e : TypeId} {size n : Nat} {v : Value} {xs : List Value} (h : w.ownsRow base e size v n xs) (hb : base' ≤ base) : w.ownsRow base' e size v n xs := by
  obtain ⟨h1, h2⟩ := h
  refine ⟨h1, ?_⟩
  rcases h2 with h2 | ⟨g, cap, cur, hv, hg, r⟩
  · exact .inl h2
  · exact .inr ⟨g, cap, cur, hv, Nat.le_trans hb hg, r⟩
theorem own_below {w w1 : World} {base : Nat} {e : TypeId} {size n : Nat} {v : Value} {xs : List Value} (h : w.ownsRow base e size v n xs) (hb : Below w.heap.size w w1) : w1.ownsRow base e size v n xs :=
  h.kept (row := none) ⟨hb.os, hb.tape, hb.output, hb.size, fun k hk _ => hb.block k hk⟩ (by cases v.ownBlock <;> simp)
theorem tok_snoc (ts : List Tok) (t : Tok) : (ts ++ [t]).flatMap tokC = ts.flatMap tokC ++ tokC t := by simp
theorem tok_one (t : Tok) : ∀ u ∈ tokC t, u.oneCell' = true := fun u hu => kTok.one (w := default) (ok := fun _ => True) (kTok_mk t) u hu
/-- A struct stored into a block of its own: the world behind it by its facts alone. -/
theorem wpList_store_abs {P : Program} {ops : Array Oper} {rest : List Oper} {o : Oper} {a : Act} {w : World} {Q : Exit → Act → World → Prop} (hgd : o.guard = none) (ty : TypeId) (x y : Operand) (ho : o.op = .store ty x y)
    (g : Nat) (cells : Array Value) (hx : a.eval x = .pointer (some ⟨g, 0, none⟩)) (hy : a.eval y = .agg cells)
    (t : TypeId) (old : Array Value) (hg : w.heap[g]? = some (.cells old t (0, 0))) (hi : (P.info? ty).map (·.size) = some cells.size)
    (hold : old.size = cells.size) (h1 : cells.all (·.oneCell') = true)
    (h : ∀ W, W.heap[g]? = some (.cells cells t (0, 0)) → w.grownBy W (some g) → wpList P ops Q rest (a.put o.dst undef) W) : wpList P ops Q (o :: rest) a w := by
  refine wpList_store_row hgd ty x y ho g cells hx hy t old hg hi hold h1 (h _ ?_ ?_)
  · simp [World.setRow, Array.getElem?_modify, hg]
  · refine ⟨rfl, rfl, rfl, by simp [World.setRow], fun k _ hk => ?_⟩
    simp only [World.setRow, Array.getElem?_modify]
    rw [if_neg (fun e => hk (by rw [e]))]
theorem own_ne {w : World} {base : Nat} {e : TypeId} {size n : Nat} {v : Value} {xs : List Value} (h : w.ownsRow base e size v n xs) {g : Nat} (hg : g < base) : v.ownBlock = none ∨ v.ownBlock ≠ some g := by
  cases hv : v.ownBlock with
  | none => exact .inl rfl
  | some k => exact .inr fun e => by injection e with e; have := (h.lt k hv).1; omega
theorem Below.grownAt {B : Nat} {a w w' : World} {g : Nat} (h : Below B a w) (hg : w.grownBy w' (some g)) (hw : B ≤ w.heap.size) (hB : B ≤ g) : Below B a w' :=
  h.grown hg hw (fun k hk => by injection hk with hk; omega)
theorem grown_setCell3 (W : World) (g i : Nat) (v : Value) : W.grownBy (W.setCell ⟨g, i, none⟩ v) (some g) :=
  ⟨rfl, rfl, rfl, by simp [World.setCell], fun k _ hk => Go.Deep.blk_setCell_other _ _ _ _ (fun e => hk (by rw [e]))⟩
theorem heap_setCell3 {W : World} {g : Nat} {a b c d : Value} {t : TypeId} (h : W.heap[g]? = some (.cells #[a, b, c, d] t (0, 0))) (x : Value) : (W.setCell ⟨g, 3, none⟩ x).heap[g]? = some (.cells #[a, b, c, x] t (0, 0)) := by
  simp [World.setCell, Array.getElem?_modify, h]
theorem preP_nil (x : Except (Nat × Int) (List Tok)) : preP [] x = x := by cases x <;> rfl
theorem wp_scope_jumps2 {P : Program} {a : Act} {w : World} {Q : Exit → Act → World → Prop} {c rest : Code} (l : Nat) (J : Act → World → Prop) (μ : Act → World → Nat) (hf : findLabel c l = some (Code.seq Code.skip rest))
    (pass : ∀ a w, J a w → rest.wp P (Exit.jump l (fun a' w' => J a' w' ∧ μ a' w' < μ a w) Q) a w)
    (first : (∀ a w, J a w → rest.wp P (Exit.jump l J Q) a w) → c.wp P (Exit.jump l J Q) a w) : (Code.scope c).wp P Q a w :=
  wp_scope_jumps l J μ hf (first fun a w h => wp_mono (pass a w h) fun e a' w' hq => by
    cases e with
    | goto l' => exact ⟨hq.1, hq.2.1⟩
    | _ => exact hq) fun a w h => wp_seq (wp_skip (pass a w h))

set_option maxRecDepth 100000 in
set_option maxHeartbeats 10000000 in
theorem all_any (l : List UInt8) (w : World) (hE : Env0 w) (h8 : 8 ≤ w.heap.size) (hl : l.length ≤ 140737488355328) : Calls Tryz.prog 44 #[.string ⟨l.toArray⟩] w fun e w' =>
    (match allP l with
      | .ok ts => ∃ v, e = .returned (.tuple #[v, .int .i64 0, .int .i64 0]) ∧ OwnTok w.heap.size v ts w' ∧ ts.length ≤ 100001
      | .error (p, x) => e = .returned (.tuple #[.slice none 0 0, .int .i64 p, .int .i64 x])) ∧ Below w.heap.size w w' := by
  by_cases hbig : 100000 < l.length
  · have hP : allP l = .error (0, 7) := by unfold allP; rw [if_pos hbig]
    rw [hP]
    go_enter Tryz.func44, Tryz.ntmps44
    go_wp2
    refine wp_scope_straight ?_
    go_wp2
    rw [Exit.noGoto_ret]
    go_ret3
    exact ⟨rfl, Below.refl _ _⟩
  · have hsm : l.length ≤ 100000 := by omega
    have hP : allP l = scanQ 0 l := by unfold allP scanQ; rw [if_neg hbig]
    have HP := Lib.hid hP
    have HE := Lib.hid hE
    clear hP hbig hE
    go_enter Tryz.func44, Tryz.ntmps44
    go_wp2
    refine wp_scope_jumps2 0 (fun a' wr => ∃ (P K : Int) (q : Nat) (ts : List Tok) (v : Value) (x0 : Int) (x1 : ByteArray) (x2 x3 : Int) (u7 u8 u9 u10 u11 u12 u13 u14 u15 u16 u17 u18 u19 u20 u21 u22 u23 u24 u25 u26 u27 u28 u29 u30 u31 u32 u33 u34 u35 u36 u37 u38 u39 u40 u41 u42 u43 u44 u45 u46 : Value), a' = { tmps := #[.string ⟨l.toArray⟩, undef, v, .int .i64 P, .int .i64 0, .pointer (some ⟨w.heap.size, 0, none⟩), .int .i64 K, u7, u8, u9, u10, u11, u12, u13, u14, u15, u16, u17, u18, u19, u20, u21, u22, u23, u24, u25, u26, u27, u28, u29, u30, u31, u32, u33, u34, u35, u36, u37, u38, u39, u40, u41, u42, u43, u44, u45, u46], defers := [] } ∧ 0 ≤ P ∧ 0 ≤ K ∧ Hid (P + K = q) ∧ q ≤ l.length ∧ ts.length ≤ q ∧ Hid (allP l = preP ts (scanQ q (l.drop q))) ∧ Hid (OwnTok (w.heap.size + 1) v ts wr) ∧ Hid (wr.heap[w.heap.size]? = some (.cells #[.int .i64 x0, .string x1, .int .i64 x2, .int .i64 x3] 83 (0, 0))) ∧ Hid (Below w.heap.size w wr)) (fun a' _ => l.length - ((intOf (a'.tmps.getD 3 undef)).toNat + (intOf (a'.tmps.getD 6 undef)).toNat)) rfl ?_ ?_
    · rintro a' wr ⟨P, K, q, ts, v, x0, x1, x2, x3, u7, u8, u9, u10, u11, u12, u13, u14, u15, u16, u17, u18, u19, u20, u21, u22, u23, u24, u25, u26, u27, u28, u29, u30, u31, u32, u33, u34, u35, u36, u37, u38, u39, u40, u41, u42, u43, u44, u45, u46, rfl, hP0, hK0, HQ, hql, htl, H, HO, HX, HB⟩
      obtain ⟨i0, hi, hz0, hz1, hz2⟩ := info_parts (show (Tryz.prog.info? 83).map (fun i => (i.zero, i.size, i.bytes)) = some (some (.agg #[.int .i64 0, .string ⟨#[]⟩, .int .i64 0, .int .i64 0]), 4, 40) by kernel_rfl)
      have hwb : w.heap.size + 1 ≤ wr.heap.size := by have := lt_of_block HX.out; omega
      by_cases hend : q = l.length
      · have hq : P + K = (l.length : Int) := by rw [HQ.out, hend]
        have HF : Hid (allP l = .ok (ts ++ [⟨4, [], 0, l.length⟩])) := Lib.hid (by rw [H.out, hend, List.drop_length, scanQ_nil]; rfl)
        clear hend H
        go_wp2_with (at_builtin; refine wpList_append_own_at _ rfl _ _ 74 rfl (w.heap.size + 1) 83 i0 _ 4 40 Tryz.underlying74 hi hz0 hz1 hz2 rfl (by decide) _ _ _ rfl (HO.out.alloc _) ⟨wr.heap.size, 0, none⟩ 1 1 (tokC ⟨4, [], 0, l.length⟩) rfl rfl ?c1 ?c2 ?c3 ?c4 ?c5 ?_)
        case c1 => exact World.news_of_block (cs := (tokC ⟨4, [], 0, l.length⟩).toArray) (t := 83) (fr := (0, 0)) (heap_alloc_new wr _)
        case c2 => exact tok_one _
        case c3 => unfold maxLen; omega
        case c4 => omega
        case c5 => simp; omega
        intro v' w2 hown' hgrow _ _
        have HO2 := Lib.hid hown'
        have HB2 := Lib.hid (((HB.out.alloc (by omega) _).grown hgrow (by simp; omega) (fun k hk => by have := (HO.out.lt k hk).1; omega)))
        clear hown' hgrow
        go_wp2
        simp only [Exit.jump]
        go_ret3
        rw [HF.out]
        refine ⟨⟨v', rfl, ?_, by rw [List.length_append]; simp; omega⟩, HB2.out⟩
        have := own_lower HO2.out (show w.heap.size ≤ w.heap.size + 1 by omega)
        unfold OwnTok
        rw [tok_snoc, List.length_append]
        exact this
      · have hlt : q < l.length := by omega
        clear hend
        obtain ⟨c, r, hcr⟩ : ∃ c r, l.drop q = c :: r := by
          cases hd : l.drop q with
          | nil => have := congrArg List.length hd; rw [List.length_drop] at this; simp at this; omega
          | cons c r => exact ⟨c, r, rfl⟩
        have hex : (ByteArray.mk l.toArray).extract q l.length = ByteArray.mk (c :: r).toArray := by rw [extract_drop, hcr]
        have hcl : (c :: r).length + q = l.length := by rw [← hcr, List.length_drop]; omega
        have hcl1 : (c :: r).length ≤ 140737488355328 := by omega
        have hleft := Lib.hid (left_any c r wr hcl1)
        have hlle := leftP_le (c :: r)
        have hql2 : q ≤ l.length := by omega
        rw [hcr] at H
        have hdrop : ∀ k, (c :: r).drop k = l.drop (q + k) := fun k => by rw [← hcr, List.drop_drop]
        have HD := Lib.hid hdrop
        have hqq : (0 : Int) ≤ q := by omega
        have hPK := HQ.out
        clear hcr hdrop
        by_cases h0 : 0 < leftP (c :: r)
        · have hst := Lib.hid (scanQ_left q (c :: r) (by simp) h0)
          have hqk : q + leftP (c :: r) ≤ l.length := by omega
          have hlen2 : (c :: r).length ≤ l.length := by omega
          generalize leftP (c :: r) = k at *
          generalize c :: r = m at *
          go_wp2_with (first
            | (go_at_call 67; refine hleft.out.mono ?_; rintro e w' ⟨rfl, rfl⟩))
          go_step3
          refine ⟨rfl, ⟨q, k, q + k, ts, v, x0, x1, x2, x3, _, _, _, _, _, _, _, _, _, _, _, _, _, _, _, _, _, _, _, _, _, _, _, _, _, _, _, _, _, _, _, _, _, _, _, _, _, _, _, _, rfl, hqq, by omega, Lib.hid (by omega), hqk, by omega, Lib.hid (by rw [H.out, hst.out, HD.out]), HO, HX, HB⟩, ?_⟩
          simp [intOf]; omega
        · have hE1 := HE.out.below HB.out h8
          have h81 := Nat.le_trans h8 HB.out.size
          have hl0 : leftP (c :: r) = 0 := by omega
          have hne : (c :: r) ≠ [] := by simp
          rw [hl0] at hleft
          cases htok : tokenP (c :: r) with
          | error x =>
            have HF : Hid (allP l = .error (q, x)) := Lib.hid (by rw [H.out, scanQ_bad q (c :: r) hne h0 htok]; rfl)
            have htk := Lib.hid (token_err c r wr hE1 h81 hcl1 htok)
            have hx0 : ((x : Int) != 0) = true := by rcases tokenP_err htok with h | h <;> (rw [h]; decide)
            clear H htok hE1 h81 hlle h0 hl0 hne HD
            generalize c :: r = m at *
            go_wp2_with (go_at_call 67; refine hleft.out.mono ?_; rintro e w' ⟨rfl, rfl⟩)
            refine htk.out.mono ?_
            rintro e w3 ⟨⟨k0, t0, n0, a0, rfl⟩, hb⟩
            have hblk := Lib.hid (block_kept hb HX.out)
            have hB3 := Lib.hid (HB.out.trans (hb.mono HB.out.size))
            have hs3 : w.heap.size + 1 ≤ w3.heap.size := by have := hb.size; omega
            clear hb hleft htk
            have hone : Hid ((#[.int .i64 k0, .string t0, .int .i64 n0, .int .i64 a0] : Array Value).all (·.oneCell') = true) := Lib.hid (by simp [Value.oneCell'])
            have hinf : Hid ((Tryz.prog.info? 83).map (·.size) = some (#[.int .i64 k0, .string t0, .int .i64 n0, .int .i64 a0] : Array Value).size) := Lib.hid (by rw [hi]; simp [hz1])
            go_wp2_with (refine wpList_store_abs rfl 83 _ _ rfl w.heap.size #[.int .i64 k0, .string t0, .int .i64 n0, .int .i64 a0] rfl rfl 83 _ hblk.out hinf.out rfl hone.out ?_)
            intro W hW hg4
            have hB4 := Lib.hid (Below.grownAt hB3.out hg4 (by omega) (Nat.le_refl _))
            clear hW hg4 hblk hB3 hs3
            go_wp2
            simp only [Exit.jump]
            go_ret3
            rw [HF.out]
            exact ⟨rfl, hB4.out⟩
          | ok tk =>
            obtain ⟨⟨tk, tt, tn, ta⟩, k⟩ := tk
            have hks := tokenP_size htok
            have hst := Lib.hid (scanQ_tok q (c :: r) hne h0 htok)
            have htk0 := token_ok c r wr hE1 h81 hcl1 htok
            dsimp only at htk0
            obtain ⟨hk0, hkl⟩ := hks
            have hqk : q + k ≤ l.length := by omega
            clear htok hE1 h81 hlle h0 hl0 hne
            generalize c :: r = m at *
            have hC : Hid (tokC ⟨tk, tt, tn, q⟩ = [.int .i64 tk, .string (ByteArray.mk tt.toArray), .int .i64 tn, .int .i64 q]) := Lib.hid rfl
            generalize htb : (ByteArray.mk tt.toArray) = tb at htk0 hC
            clear htb
            have htk := Lib.hid htk0
            clear htk0
            go_wp2_with (go_at_call 67; refine hleft.out.mono ?_; rintro e w' ⟨rfl, rfl⟩)
            refine htk.out.mono ?_
            rintro e w3 ⟨rfl, hb⟩
            have hblk := Lib.hid (block_kept hb HX.out)
            have hO3 := Lib.hid (own_below HO.out hb)
            have hB3 := Lib.hid (HB.out.trans (hb.mono HB.out.size))
            have hs3 : w.heap.size + 1 ≤ w3.heap.size := by have := hb.size; omega
            clear hb hleft htk
            have hone : Hid ((#[.int .i64 tk, .string tb, .int .i64 tn, .int .i64 ta] : Array Value).all (·.oneCell') = true) := Lib.hid (by simp [Value.oneCell'])
            have hinf : Hid ((Tryz.prog.info? 83).map (·.size) = some (#[.int .i64 tk, .string tb, .int .i64 tn, .int .i64 ta] : Array Value).size) := Lib.hid (by rw [hi]; simp [hz1])
            go_wp2_with (go_loud (refine wpList_store_abs rfl 83 _ _ rfl w.heap.size #[.int .i64 tk, .string tb, .int .i64 tn, .int .i64 ta] rfl rfl 83 _ hblk.out hinf.out rfl hone.out ?_))
            intro W hW hg4
            have c0 := cell_at hW (i := 0) rfl
            have c1 := cell_at hW (i := 1) rfl
            have c2 := cell_at hW (i := 2) rfl
            have c3 := cell_at hW (i := 3) rfl
            have f3 := Lib.frozen_of_heap hW 3
            have hO4 := Lib.hid (hO3.out.kept hg4 (own_ne hO3.out (by omega)))
            have hB4 := Lib.hid (Below.grownAt hB3.out hg4 (by omega) (Nat.le_refl _))
            have hs4 : w.heap.size + 1 ≤ W.heap.size := Nat.le_trans hs3 hg4.size
            have hX5 := Lib.hid (heap_setCell3 hW (.int .i64 q))
            have hO5 := Lib.hid (hO4.out.kept (grown_setCell3 W w.heap.size 3 (.int .i64 q)) (own_ne hO4.out (by omega)))
            have hB5 := Lib.hid (Below.grownAt hB4.out (grown_setCell3 W w.heap.size 3 (.int .i64 q)) (by omega) (Nat.le_refl _))
            have hs5 : w.heap.size + 1 ≤ (W.setCell ⟨w.heap.size, 3, none⟩ (.int .i64 q)).heap.size := by rw [Go.Deep.nblk_setCell]; exact hs4
            have hS5 := Lib.hid hs5
            clear hW hg4 hblk hO3 hB3 hs3 hO4 hB4 hs5
            go_wp2_with (at_builtin; (refine wpList_append_own_at _ rfl _ _ 74 rfl (w.heap.size + 1) 83 i0 _ 4 40 Tryz.underlying74 hi hz0 hz1 hz2 rfl (by decide) _ ts.length (ts.flatMap tokC) rfl ?c0 ⟨_, 0, none⟩ 1 1 [.int .i64 tk, .string tb, .int .i64 tn, .int .i64 q] rfl rfl ?c1 ?c2 ?c3 ?c4 ?c5 ?_))
            case c0 => exact hO5.out.alloc _
            case c1 =>
              have hn := World.news_of_block (cs := #[.int .i64 tk, .string tb, .int .i64 tn, .int .i64 q]) (t := 83) (fr := (0, 0)) (heap_alloc_new (W.setCell ⟨w.heap.size, 3, none⟩ (.int .i64 q)) _)
              rw [Go.Deep.nblk_setCell] at hn
              exact hn
            case c2 => simp [Value.oneCell']
            case c3 => unfold maxLen; omega
            case c4 => omega
            case c5 => have := hS5.out; simp only [World.alloc, Array.size_push]; omega
            intro v' w2 hown' hgrow _ _
            have hne5 := own_ne hO5.out (show w.heap.size < w.heap.size + 1 by omega)
            have HO2 := Lib.hid hown'
            have HB2 := Lib.hid (((hB5.out.alloc (by have := hS5.out; omega) _).grown hgrow (by have := hS5.out; simp only [World.alloc, Array.size_push]; omega) (fun k hk => by have := (hO5.out.lt k hk).1; omega)))
            have HX2 : Hid (w2.heap[w.heap.size]? = some (.cells #[.int .i64 tk, .string tb, .int .i64 tn, .int .i64 q] 83 (0, 0))) := Lib.hid ((hgrow.block w.heap.size (by have := hS5.out; simp only [World.alloc, Array.size_push]; omega) (by rcases hne5 with h | h; rw [h]; simp; exact fun e => h e.symm)).trans (block_kept (below_alloc1 _ _) hX5.out))
            clear hown' hgrow
            go_wp2
            go_step3
            refine ⟨rfl, ⟨q, k, q + k, ts ++ [⟨tk, tt, tn, q⟩], v', tk, tb, tn, q, _, _, _, _, _, _, _, _, _, _, _, _, _, _, _, _, _, _, _, _, _, _, _, _, _, _, _, _, _, _, _, _, _, _, _, _, _, _, _, _, rfl, hqq, by omega, Lib.hid (by omega), hqk, by simp; omega, Lib.hid (by rw [H.out, hst.out, HD.out, preP_tok]), Lib.hid (by unfold OwnTok; rw [tok_snoc, hC.out, List.length_append]; exact HO2.out), HX2, HB2⟩, ?_⟩
            simp [intOf]; omega
    · intro hpass
      have Hpass := Lib.hid hpass
      clear hpass
      go_wp2_with fail
      go_step3
      rename_i hK
      refine hK _ _ ?_
      refine Hpass.out _ _ ⟨0, 0, 0, [], .slice none 0 0, 0, ⟨#[]⟩, 0, 0, _, _, _, _, _, _, _, _, _, _, _, _, _, _, _, _, _, _, _, _, _, _, _, _, _, _, _, _, _, _, _, _, _, _, _, _, _, _, _, _, rfl, by omega, by omega, Lib.hid rfl, by omega, by simp, Lib.hid (by rw [HP.out]; exact (preP_nil _).symm), Lib.hid ?_, Lib.hid (heap_alloc_new w _), Lib.hid (below_alloc1 _ _)⟩
      exact World.ownsRow_nil _ _ _ _
end Go.Proofs.YtoahaigfjfeopaaGreatDoor

/- inst.parser: must, more, next. -/
namespace Go.Proofs.YtoahaigfjfeopaaGreatDoor
open Go.RowKit

/-- How an error ends the reading of an instance: a panic that Parse recovers. -/
abbrev wrongs (p x : Int) : Ending := .panicked [{ v := .iface 78 (.agg #[.int .i64 p, .int .i64 x]), recovered := false }]

theorem must_ok (tk tn ta x : Int) (tb : ByteArray) (w : World) : Calls Tryz.prog 71 #[.bool true, .agg #[.int .i64 tk, .string tb, .int .i64 tn, .int .i64 ta], .int .i64 x] w fun e w' => e = .returned (.tuple #[]) ∧ Below w.heap.size w w' := by
  go_enter Tryz.func71, Tryz.ntmps71
  go_wp2
  all_goals go_end0
  all_goals exact ⟨rfl, below_alloc1 _ _⟩
theorem must_bad (tk tn ta x : Int) (tb : ByteArray) (w : World) : Calls Tryz.prog 71 #[.bool false, .agg #[.int .i64 tk, .string tb, .int .i64 tn, .int .i64 ta], .int .i64 x] w fun e w' => e = wrongs ta x ∧ Below w.heap.size w w' := by
  go_enter Tryz.func71, Tryz.ntmps71
  go_wp2
  all_goals exact ⟨rfl, rfl, below_alloc1 _ _⟩

/-- The parser's block: what is still to be read, and what is told so far. -/
def PB (g : Nat) (w : World) (ts : List Tok) (dv hv sv : Value) : Prop :=
  ∃ A n c, w.heap[g]? = some (.cells #[.slice A n c, dv, hv, sv] 81 (0, 0)) ∧ Sl kTok w (· < g) (.slice A n c) ts

theorem tok_head {w : World} {ok : Nat → Prop} {A : Option Addr} {n c : Nat} {t : Tok} {r : List Tok} (h : Sl kTok w ok (.slice A n c) (t :: r)) :
    ∃ b o, A = some ⟨b, o, none⟩ ∧ ok b ∧ n = r.length + 1 ∧ n ≤ c ∧ n ≤ 140737488355328 ∧ w.cell? ⟨b, o, none⟩ = some (.int .i64 t.kind) ∧ w.cell? ⟨b, o + 1, none⟩ = some (.string ⟨t.text.toArray⟩) ∧ w.cell? ⟨b, o + 2, none⟩ = some (.int .i64 t.n) ∧ w.cell? ⟨b, o + 3, none⟩ = some (.int .i64 t.at_) := by
  obtain ⟨A', c', he, hc, hm, hA⟩ := h
  injection he with h1 h2 h3
  subst h1 h2 h3
  obtain ⟨b, o, cs, rfl, hb, hk, hcs⟩ := hA 0 t rfl
  obtain ⟨_, _, rfl, rfl, ⟨_, _, rfl, rfl, ⟨_, _, rfl, rfl, rfl⟩⟩⟩ := hk
  refine ⟨b, o, rfl, hb, rfl, hc, hm, ?_, ?_, ?_, ?_⟩
  · exact hcs 0 _ rfl
  · exact hcs 1 _ rfl
  · exact hcs 2 _ rfl
  · exact hcs 3 _ rfl
theorem tok_tail {w : World} {ok : Nat → Prop} {b o n c : Nat} {t : Tok} {r : List Tok} (h : Sl kTok w ok (.slice (some ⟨b, o, none⟩) n c) (t :: r)) :
    Sl kTok w ok (.slice (some ⟨b, o + 4, none⟩) (n - 1) (c - 1)) r := by
  obtain ⟨A', c', he, hc, hm, hA⟩ := h
  injection he with h1 h2 h3
  subst h1 h2 h3
  refine ⟨_, _, rfl, by simp at hc; omega, by simp at hm; omega, fun j x hj => ?_⟩
  obtain ⟨b', o', cs, he, hb, hk, hcs⟩ := hA (j + 1) x (by simpa using hj)
  injection he with he
  injection he with he1 he2
  subst he1 he2
  refine ⟨b, o + 4, cs, rfl, hb, hk, fun i u hu => ?_⟩
  have := hcs i u hu
  rw [show o + 4 + (j * kTok.sz + i) = o + ((j + 1) * kTok.sz + i) by show o + 4 + (j * 4 + i) = o + ((j + 1) * 4 + i); omega]
  exact this
theorem PB.lt {g : Nat} {w : World} {ts : List Tok} {dv hv sv : Value} (h : PB g w ts dv hv sv) : g < w.heap.size := by
  obtain ⟨A, n, c, h, _⟩ := h; exact lt_of_block h
theorem PB.kept {g : Nat} {w w1 : World} {ts : List Tok} {dv hv sv : Value} (h : PB g w ts dv hv sv) (hb : Below (g + 1) w w1) : PB g w1 ts dv hv sv := by
  obtain ⟨A, n, c, h, hs⟩ := h
  exact ⟨A, n, c, (hb.block g (Nat.lt_succ_self g)).trans h, (hs.move (by decide) (fun k hk _ => hb.block k (by omega))).mono fun _ h => h.1⟩

theorem sl_nil {α : Type} {d : Kd α} {w : World} {ok : Nat → Prop} (A : Option Addr) (c : Nat) : Sl d w ok (.slice A 0 c) [] :=
  ⟨A, c, rfl, Nat.zero_le _, by simp, fun j x hj => by simp at hj⟩
theorem heap_set0 {W : World} {g : Nat} {a b c d : Value} {t : TypeId} (h : W.heap[g]? = some (.cells #[a, b, c, d] t (0, 0))) (x : Value) : (W.setCell ⟨g, 0, none⟩ x).heap[g]? = some (.cells #[x, b, c, d] t (0, 0)) := by
  simp [World.setCell, Array.getElem?_modify, h]
/-- What is behind a growth by another block. -/
theorem PB.grown {g : Nat} {w w1 : World} {ts : List Tok} {dv hv sv : Value} {row : Option Nat} (h : PB g w ts dv hv sv) (hg : w.grownBy w1 row) (hr : ∀ k, row = some k → g < k) : PB g w1 ts dv hv sv := by
  have hl := h.lt
  have hk : ∀ k, k ≤ g → w1.heap[k]? = w.heap[k]? := fun k hk => hg.block k (by omega) (fun e => by have := hr k e.symm; omega)
  obtain ⟨A, n, c, h, hs⟩ := h
  exact ⟨A, n, c, (hk g (Nat.le_refl _)).trans h, (hs.move (by decide) (fun k hk' _ => hk k (by have : k < g := hk'; omega))).mono fun _ h => h.1⟩
theorem PB.set {g : Nat} {w : World} {ts ts' : List Tok} {dv hv sv : Value} (h : PB g w ts dv hv sv) {A : Option Addr} {n c : Nat} (hs : Sl kTok w (· < g) (.slice A n c) ts') : PB g (w.setCell ⟨g, 0, none⟩ (.slice A n c)) ts' dv hv sv := by
  obtain ⟨A', n', c', h, _⟩ := h
  exact ⟨A, n, c, heap_set0 h _, (hs.move (by decide) (fun k hk _ => Go.Deep.blk_setCell_other _ _ _ _ (by have : k < g := hk; simp; omega))).mono fun _ h => h.1⟩

theorem more_any (g : Nat) (w : World) (t : Tok) (r : List Tok) (dv hv sv : Value) (h : PB g w (t :: r) dv hv sv) :
    Calls Tryz.prog 100 #[.pointer (some ⟨g, 0, none⟩)] w fun e w' => e = .returned (.bool (t.kind == 2)) ∧ w' = w := by
  obtain ⟨A, n, c, hg, hs⟩ := h
  obtain ⟨b, o, rfl, hb, hn, hnc, hmc, c0, c1, c2, c3⟩ := tok_head hs
  have g0 := cell_at hg (i := 0) rfl
  have hn0 : 0 < n := by omega
  clear hs hg hn
  go_enter Tryz.func100, Tryz.ntmps100
  go_wp2
  all_goals go_ret
  all_goals exact ⟨rfl, rfl⟩

theorem next_any (g : Nat) (w : World) (t : Tok) (r : List Tok) (dv hv sv : Value) (h : PB g w (t :: r) dv hv sv) :
    Calls Tryz.prog 69 #[.pointer (some ⟨g, 0, none⟩)] w fun e w' => e = .returned (.agg (tokC t).toArray) ∧ PB g w' (if t.kind = 4 then t :: r else r) dv hv sv ∧ w.grownBy w' (some g) := by
  have hgw := h.lt
  have H := Lib.hid h
  obtain ⟨A, n, c, hg, hs⟩ := h
  obtain ⟨b, o, rfl, hb, hn, hnc, hmc, c0, c1, c2, c3⟩ := tok_head hs
  have ht := Lib.hid (tok_tail hs)
  have g0 := cell_at hg (i := 0) rfl
  have f0 := Lib.frozen_of_heap hg 0
  have hn0 : 0 < n := by omega
  have hbw : b < w.heap.size := by omega
  have hbg : ¬ b = g := by omega
  have hT : Hid (tokC t = [.int .i64 t.kind, .string ⟨t.text.toArray⟩, .int .i64 t.n, .int .i64 t.at_]) := Lib.hid rfl
  generalize (ByteArray.mk t.text.toArray) = tb at c1 hT
  have HG := Lib.hid hg
  have HN := Lib.hid hn
  clear hs hg hn
  by_cases h4 : t.kind = 4
  · have h4' : (t.kind != 4) = false := by simp [h4]
    go_enter Tryz.func69, Tryz.ntmps69
    go_wp2
    all_goals refine bodyPost_ret (v := .agg #[.int .i64 4, .string tb, .int .i64 t.n, .int .i64 t.at_]) (by simp [results, Tryz.results69, go_sem]) rfl ?_
    all_goals refine ⟨by rw [hT.out, h4], ?_, ?_⟩
    · exact (H.out.grown (World.grownBy_alloc _ _ none) (by simp)).grown (World.grownBy_alloc _ _ none) (by simp)
    · exact (World.grownBy_alloc _ _ _).trans (World.grownBy_alloc _ _ _)
  · have h4' : (t.kind != 4) = true := by simp [h4]
    go_enter Tryz.func69, Tryz.ntmps69
    go_wp2
    all_goals refine bodyPost_ret (v := .agg #[.int .i64 t.kind, .string tb, .int .i64 t.n, .int .i64 t.at_]) (by simp [results, Tryz.results69, go_sem]) rfl ?_
    all_goals refine ⟨by rw [hT.out], ?_, ?_⟩
    · have hr : r = [] := List.eq_nil_of_length_eq_zero (by have := HN.out; omega)
      subst hr
      have hz : n - 1 = 0 := by have := HN.out; simp at this; omega
      rw [hz]
      exact ((H.out.set (sl_nil _ _)).grown (World.grownBy_alloc _ _ none) (by simp)).grown (World.grownBy_alloc _ _ none) (by simp)
    · exact ((grown_setCell3 _ _ _ _).trans (World.grownBy_alloc _ _ _)).trans (World.grownBy_alloc _ _ _)
    · exact ((H.out.set ht.out).grown (World.grownBy_alloc _ _ none) (by simp)).grown (World.grownBy_alloc _ _ none) (by simp)
    · exact ((grown_setCell3 _ _ _ _).trans (World.grownBy_alloc _ _ _)).trans (World.grownBy_alloc _ _ _)
end Go.Proofs.YtoahaigfjfeopaaGreatDoor

/- The plain functions that the program computes, part 5: the instance of a row of tokens, or where it is wrong. No program, no memory. -/
namespace Go.Proofs.YtoahaigfjfeopaaGreatDoor

/-- Is the next token this word, or sign? -/
def isP (t : Tok) (s : List UInt8) : Bool := (t.kind == 1 || t.kind == 3) && decide (t.text = s)
/-- What is told, and what is still to be read; or where it is wrong, and how. -/
abbrev PR (α : Type) := Except (Int × Int) (α × List Tok)
/-- A token of which all is known behind: next. -/
def nextQ : List Tok → Tok × List Tok
  | [] => (default, [])
  | t :: r => (t, if t.kind = 4 then t :: r else r)
def isQ (s : List UInt8) : List Tok → Bool × List Tok
  | [] => (false, [])
  | t :: r => (isP t s, if isP t s then r else t :: r)
def signQ (s : List UInt8) : List Tok → PR Unit
  | [] => .error (0, 0)
  | t :: r => if isP t s then .ok ((), r) else .error (t.at_, 3)
def numberQ (m : Int) : List Tok → PR Tok
  | [] => .error (0, 0)
  | t :: r => if t.kind == 2 then (if smallB t.n m then .ok (t, r) else .error (t.at_, 4)) else .error (t.at_, 3)
def lastI (l : List Int) : Int := nth 0 l (l.length - 1)
def domQ : List Tok → List Int → PR (List Int)
  | [], _ => .error (0, 0)
  | t :: r, d =>
    if d.length ≠ 0 ∧ t.kind ≠ 2 then .ok (d, t :: r)
    else match numberQ 1000000 (t :: r) with
      | .error e => .error e
      | .ok _ => if 16 ≤ d.length then .error (t.at_, 7) else if d.length ≠ 0 ∧ t.n ≤ lastI d then .error (t.at_, 6) else domQ r (d ++ [t.n])
def varQ (nd : Nat) (l : List Int) : List Tok → PR (List Int)
  | [] => .error (0, 0)
  | t :: r => match numberQ 1000000000000 (t :: r) with
    | .error e => .error e
    | .ok _ => if 6 ≤ l.length then .error (t.at_, 7) else if 0 ≤ t.n ∧ t.n < nd ∧ (l.length = 0 ∨ lastI l < t.n) then .ok (l ++ [t.n], r) else .error (t.at_, 5)
def scopeQ (nd : Nat) : List Tok → List Int → PR (List Int)
  | [], _ => .error (0, 0)
  | t :: r, l =>
    if l.length ≠ 0 ∧ t.kind ≠ 2 then .ok (l, t :: r)
    else match varQ nd l (t :: r) with
      | .error e => .error e
      | .ok (l', _) => scopeQ nd r l'
def valsQ (doms : List (List Int)) : List Int → List Tok → PR (List Int)
  | [], ts => .ok ([], ts)
  | v :: ss, ts => match numberQ 1000000 ts with
    | .error e => .error e
    | .ok (t, r) => if t.n ∈ nth [] doms v.toNat then (match valsQ doms ss r with
        | .error e => .error e
        | .ok (ns, r') => .ok (t.n :: ns, r')) else .error (t.at_, 6)
def rowQ (doms : List (List Int)) (scope : List Int) (ahead : List (List Int)) (ts : List Tok) : PR (List (List Int)) :=
  match valsQ doms scope ts with
  | .error e => .error e
  | .ok (t, r) => if ahead.length = 0 ∨ cmpL (nth [] ahead (ahead.length - 1)) t < 0 then .ok (ahead ++ [t], r) else .error ((nth default ts 0).at_, 6)
def rowsQ (doms : List (List Int)) (scope : List Int) : Nat → List (List Int) → List Tok → PR (List (List Int))
  | 0, _, _ => .error (0, 0)
  | n + 1, ahead, ts => match rowQ doms scope ahead ts with
    | .error e => .error e
    | .ok (rows, r) => if (isQ [44] r).1 then rowsQ doms scope n rows (isQ [44] r).2 else .ok (rows, r)
/-- The multipliers and variables of a linear constraint. -/
def termsQ (nd : Nat) : Nat → List Int → List Int → List Tok → PR (List Int × List Int)
  | 0, _, _, _ => .error (0, 0)
  | n + 1, args, scope, ts => match numberQ 1000000 ts with
    | .error e => .error e
    | .ok (t, r) => if t.n = 0 then .error (t.at_, 4) else match varQ nd scope r with
      | .error e => .error e
      | .ok (scope', r') => if (isQ [44] r').1 then termsQ nd n (args ++ [t.n]) scope' (isQ [44] r').2 else .ok ((args ++ [t.n], scope'), r')
/-- Where a word stands in a row of words; -1: nowhere. -/
def wordFrom (s : List UInt8) : Nat → List (List UInt8) → Int
  | _, [] => -1
  | i, a :: r => if a = s then i else wordFrom s (i + 1) r
def linearQ (nd : Nat) (ts : List Tok) : PR (List Int × List Int) :=
  match termsQ nd (ts.length + 1) [] [] ts with
  | .error e => .error e
  | .ok ((args, scope), r) => match signQ [58] r with
    | .error e => .error e
    | .ok (_, r1) =>
      let t := (nextQ r1).1
      let how := wordFrom t.text 0 howsT
      if t.kind = 1 ∧ 0 ≤ how then (match numberQ 1000000 (nextQ r1).2 with
        | .error e => .error e
        | .ok (u, r2) => .ok ((args ++ [how, u.n], scope), r2)) else .error (t.at_, 3)
def tableQ (doms : List (List Int)) (scope : List Int) (ts : List Tok) : PR (List (List Int)) :=
  match signQ [58] ts with
  | .error e => .error e
  | .ok (_, r) => let t := nth default r 0
    if t.kind = 3 ∧ t.text = [59] then .ok ([], r) else rowsQ doms scope (r.length + 1) [] r
def hardQ (doms : List (List Int)) (kind : Int) (ts : List Tok) : PR Con :=
  if kind = 6 then (match linearQ doms.length ts with
    | .error e => .error e
    | .ok ((args, scope), r) => .ok (⟨kind, scope, [], args⟩, r))
  else match scopeQ doms.length ts [] with
    | .error e => .error e
    | .ok (scope, r) => if kind ≤ 2 then (match tableQ doms scope r with
        | .error e => .error e
        | .ok (rows, r') => .ok (⟨kind, scope, rows, []⟩, r')) else .ok (⟨kind, scope, [], []⟩, r)
def costsQ (doms : List (List Int)) (scope : List Int) : Nat → List (List Int) → List Int → List Tok → PR (List (List Int) × List Int)
  | 0, _, _, _ => .error (0, 0)
  | n + 1, rows, costs, ts => if (isQ [44] ts).1 then (match rowQ doms scope rows (isQ [44] ts).2 with
      | .error e => .error e
      | .ok (rows', r) => match numberQ 1000000000000 r with
        | .error e => .error e
        | .ok (t, r') => costsQ doms scope n rows' (costs ++ [t.n]) r') else .ok ((rows, costs), ts)
def softQ (doms : List (List Int)) (ts : List Tok) : PR Sft :=
  match scopeQ doms.length ts [] with
  | .error e => .error e
  | .ok (scope, r) => match signQ [58] r with
    | .error e => .error e
    | .ok (_, r1) => match numberQ 1000000000000 r1 with
      | .error e => .error e
      | .ok (t, r2) => match costsQ doms scope (r2.length + 1) [] [] r2 with
        | .error e => .error e
        | .ok ((rows, costs), r3) => .ok (⟨scope, rows, costs, t.n⟩, r3)
def stmtQ (x : Ins) (ts : List Tok) : PR Ins :=
  let t := (nextQ ts).1
  let r := (nextQ ts).2
  let kind := wordFrom t.text 0 wordsT
  if ¬ (t.kind = 1 ∧ (0 < kind ∨ t.text = varT ∨ t.text = softT)) then .error (t.at_, 3)
  else match (if t.text = varT then (if 40 ≤ x.doms.length then Except.error (t.at_, 7) else match domQ r [] with
        | .error e => .error e
        | .ok (d, r') => .ok ({ x with doms := x.doms ++ [d] }, r'))
      else if t.text = softT then (if 200 ≤ x.soft.length then .error (t.at_, 7) else match softQ x.doms r with
        | .error e => .error e
        | .ok (s, r') => .ok ({ x with soft := x.soft ++ [s] }, r'))
      else (if 200 ≤ x.hard.length then .error (t.at_, 7) else match hardQ x.doms kind r with
        | .error e => .error e
        | .ok (c, r') => .ok ({ x with hard := x.hard ++ [c] }, r')) : PR Ins) with
    | .error e => .error e
    | .ok (y, r') => match signQ [59] r' with
      | .error e => .error e
      | .ok (_, r2) => .ok (y, r2)
def stmtsQ : Nat → Ins → List Tok → Except (Int × Int) Ins
  | 0, _, _ => .error (0, 0)
  | n + 1, x, ts => if (nth default ts 0).kind = 4 then .ok x else match stmtQ x ts with
    | .error e => .error e
    | .ok (y, r) => stmtsQ n y r
/-- The instance of a text, or where it is wrong. -/
def parseP (l : List UInt8) : Except (Int × Int) Ins :=
  match allP l with
  | .error (p, x) => .error (p, x)
  | .ok ts => stmtsQ (ts.length + 1) ⟨[], [], []⟩ ts
end Go.Proofs.YtoahaigfjfeopaaGreatDoor

/- inst.parser: is, sign, number. -/
namespace Go.Proofs.YtoahaigfjfeopaaGreatDoor
open Go.RowKit

theorem bytes_eq (a b : List UInt8) : ((ByteArray.mk a.toArray).toList == (ByteArray.mk b.toArray).toList) = decide (a = b) := by
  rw [ByteArray.toList_eq, ByteArray.toList_eq]
  by_cases h : a = b <;> simp [h]

set_option maxHeartbeats 1000000 in
theorem is_any (g : Nat) (w : World) (t : Tok) (r : List Tok) (dv hv sv : Value) (s : List UInt8) (h : PB g w (t :: r) dv hv sv) :
    Calls Tryz.prog 103 #[.pointer (some ⟨g, 0, none⟩), .string ⟨s.toArray⟩] w fun e w' => e = .returned (.bool (isP t s)) ∧ PB g w' (if isP t s then r else t :: r) dv hv sv ∧ w.grownBy w' (some g) := by
  have hgw := h.lt
  have H := Lib.hid h
  obtain ⟨A, n, c, hg, hs⟩ := h
  obtain ⟨b, o, rfl, hb, hn, hnc, hmc, c0, c1, c2, c3⟩ := tok_head hs
  have g0 := cell_at hg (i := 0) rfl
  have hn0 : 0 < n := by omega
  have hbw : b < w.heap.size := by omega
  have hbg : ¬ b = g := by omega
  have hT : Hid (isP t s = ((t.kind == 1 || t.kind == 3) && ((ByteArray.mk t.text.toArray).toList == (ByteArray.mk s.toArray).toList))) := Lib.hid (by unfold isP; simp only [bytes_eq])
  generalize (ByteArray.mk t.text.toArray) = tb at c1 hT
  generalize (ByteArray.mk s.toArray) = sb at hT ⊢
  clear hs hg hn
  by_cases hk : t.kind = 1 ∨ t.kind = 3
  · have hne : ¬ t.kind = 4 := by omega
    have hk13 : (t.kind == 1 || t.kind == 3) = true := by rcases hk with h | h <;> simp [h]
    have HK := Lib.hid hk13
    clear hk13
    by_cases hx : (tb.toList == sb.toList) = true
    · have HX : Hid (isP t s = true) := Lib.hid (by rw [hT.out, HK.out, hx]; rfl)
      rw [HX.out]
      rcases hk with hk | hk
      all_goals
        have hk1 : (t.kind != 1) = !(t.kind == 1) := rfl
        go_enter Tryz.func103, Tryz.ntmps103
        go_wp2_with (go_at_call 69; refine (next_any g _ t r dv hv sv (H.out.grown (World.grownBy_alloc _ _ none) (by simp))).mono ?_; rintro e w' ⟨rfl, hp, hg⟩)
        all_goals go_ret
        all_goals rw [if_neg hne] at hp
        all_goals exact ⟨rfl, hp, (World.grownBy_alloc _ _ _).trans hg⟩
    · have hx := Bool.eq_false_iff.2 hx
      have HX : Hid (isP t s = false) := Lib.hid (by rw [hT.out, HK.out, hx]; rfl)
      rw [HX.out]
      rcases hk with hk | hk
      all_goals
        go_enter Tryz.func103, Tryz.ntmps103
        go_wp2
        all_goals refine bodyPost_ret (v := .bool false) (by simp [results, Tryz.results103, go_sem]) rfl ?_
        all_goals exact ⟨rfl, H.out.grown (World.grownBy_alloc _ _ none) (by simp), World.grownBy_alloc _ _ _⟩
  · have hk1 : (t.kind != 1) = true := by simp; omega
    have hk3 : (t.kind != 3) = true := by simp; omega
    have HX : Hid (isP t s = false) := Lib.hid (by rw [hT.out]; simp at hk; simp [hk.1, hk.2])
    rw [HX.out]
    go_enter Tryz.func103, Tryz.ntmps103
    go_wp2
    all_goals refine bodyPost_ret (v := .bool false) (by simp [results, Tryz.results103, go_sem]) rfl ?_
    all_goals exact ⟨rfl, H.out.grown (World.grownBy_alloc _ _ none) (by simp), World.grownBy_alloc _ _ _⟩

/-- A row of tokens that does not end but at an end token. -/
def Toks : List Tok → Prop
  | [] => False
  | t :: r => t.kind = 4 ∨ Toks r
theorem Toks.cons {ts : List Tok} (h : Toks ts) : ∃ t r, ts = t :: r := by
  cases ts with
  | nil => exact h.elim
  | cons t r => exact ⟨t, r, rfl⟩
theorem Toks.tail {t : Tok} {r : List Tok} (h : Toks (t :: r)) (h4 : ¬ t.kind = 4) : Toks r := by
  rcases h with h | h
  · exact absurd h h4
  · exact h
theorem isP_kind {t : Tok} {s : List UInt8} (h : isP t s = true) : ¬ t.kind = 4 := by
  intro h4; simp [isP, h4] at h
theorem below_grown0 {w w1 : World} (h : Below w.heap.size w w1) (row : Option Nat) : w.grownBy w1 row := ⟨h.os, h.tape, h.output, h.size, fun k hk _ => h.block k hk⟩

set_option maxHeartbeats 1000000 in
theorem sign_any (g : Nat) (w : World) (t : Tok) (r : List Tok) (dv hv sv : Value) (s : List UInt8) (h : PB g w (t :: r) dv hv sv) (hT : Toks (t :: r)) :
    Calls Tryz.prog 75 #[.pointer (some ⟨g, 0, none⟩), .string ⟨s.toArray⟩] w fun e w' => (if isP t s then e = .returned (.tuple #[]) ∧ PB g w' r dv hv sv else e = wrongs t.at_ 3) ∧ w.grownBy w' (some g) := by
  have hc := Lib.hid (is_any g w t r dv hv sv s h)
  by_cases hi : isP t s = true
  · obtain ⟨t2, r2, rfl⟩ := (hT.tail (isP_kind hi)).cons
    rw [hi] at hc
    simp only [hi, if_true] at hc ⊢
    clear h hT hi
    go_enter Tryz.func75, Tryz.ntmps75
    go_wp2_with (go_at_call 103; refine hc.out.mono ?_)
    rintro e w1 ⟨rfl, hp, hg⟩
    have HP := Lib.hid hp
    have HG := Lib.hid hg
    have hgw := hp.lt
    obtain ⟨A, n, c, hgb, hs⟩ := hp
    obtain ⟨b, o, rfl, hb, hn, hnc, hmc, c0, c1, c2, c3⟩ := tok_head hs
    have g0 := cell_at hgb (i := 0) rfl
    have hn0 : 0 < n := by omega
    clear hc hg hgb hs hn
    generalize (ByteArray.mk t2.text.toArray) = tb at c1
    go_wp2_with (go_at_call 71; refine (must_ok _ _ _ _ _ _).mono ?_; rintro e w' ⟨rfl, hb2⟩)
    all_goals go_end0
    all_goals exact ⟨⟨rfl, HP.out.grown (below_grown0 hb2 none) (by simp)⟩, HG.out.trans (below_grown0 hb2 _)⟩
  · have hi := Bool.eq_false_iff.2 hi
    simp only [hi, if_false, Bool.false_eq_true] at hc ⊢
    clear h hT hi
    go_enter Tryz.func75, Tryz.ntmps75
    go_wp2_with (go_at_call 103; refine hc.out.mono ?_)
    rintro e w1 ⟨rfl, hp, hg⟩
    have HP := Lib.hid hp
    have HG := Lib.hid hg
    have hgw := hp.lt
    obtain ⟨A, n, c, hgb, hs⟩ := hp
    obtain ⟨b, o, rfl, hb, hn, hnc, hmc, c0, c1, c2, c3⟩ := tok_head hs
    have g0 := cell_at hgb (i := 0) rfl
    have hn0 : 0 < n := by omega
    clear hc hg hgb hs hn
    generalize (ByteArray.mk t.text.toArray) = tb at c1
    go_wp2_with (go_at_call 71; refine (must_bad _ _ _ _ _ _).mono ?_; rintro e w' ⟨rfl, hb2⟩)
    all_goals exact ⟨rfl, rfl, HG.out.trans (below_grown0 hb2 _)⟩
end Go.Proofs.YtoahaigfjfeopaaGreatDoor

/- inst.parser: number. -/
namespace Go.Proofs.YtoahaigfjfeopaaGreatDoor
open Go.RowKit

/-- A way that ends in the middle of a region: handed to the region's walk as an empty region. -/
theorem wpAny_shut {G : Prop} (P : Program) (a : Act) (w : World) (h : wpAny P .any #[] (fun _ _ _ => G) 0 #[] a w) : G := h.2
theorem grownBy_drew (w : World) (row : Option Nat) : w.grownBy w.drew row := below_grown0 (Below.drew (Below.refl _ _)) row
theorem PB.drew {g : Nat} {w : World} {ts : List Tok} {dv hv sv : Value} (h : PB g w ts dv hv sv) : PB g w.drew ts dv hv sv := h.grown (grownBy_drew w none) (by simp)
theorem PB.alloc {g : Nat} {w : World} {ts : List Tok} {dv hv sv : Value} (h : PB g w ts dv hv sv) (o : Obj) : PB g (w.alloc o) ts dv hv sv := h.grown (World.grownBy_alloc w o none) (by simp)

abbrev tokZ : Obj := .cells #[.int .i64 0, .string ⟨#[]⟩, .int .i64 0, .int .i64 0] 83

set_option maxRecDepth 100000 in
set_option maxHeartbeats 2000000 in
theorem number_p (g : Nat) (w : World) (t : Tok) (r : List Tok) (dv hv sv : Value) (m : Int) (h3 : 0 ≤ m) (h4 : m ≤ 9223372036854775807) (h : PB g w (t :: r) dv hv sv) :
    Calls Tryz.prog 101 #[.pointer (some ⟨g, 0, none⟩), .int .i64 m] w fun e w' => (if t.kind == 2 then (if smallB t.n m then e = .returned (.agg (tokC t).toArray) ∧ PB g w' r dv hv sv else e = wrongs t.at_ 4) else e = wrongs t.at_ 3) ∧ w.grownBy w' (some g) := by
  have hgw := h.lt
  have hP : PB g ((w.alloc tokZ).drew) (t :: r) dv hv sv := (h.alloc _).drew
  have hG : w.grownBy ((w.alloc tokZ).drew) (some g) := (World.grownBy_alloc _ _ _).trans (grownBy_drew _ _)
  have hX : ((w.alloc tokZ).drew).heap[w.heap.size]? = some tokZ := heap_alloc_new w _
  have HX := Lib.hid hX
  have HG := Lib.hid hG
  have HP := Lib.hid hP
  obtain ⟨A, n, c, hg, hs⟩ := hP
  obtain ⟨b, o, rfl, hb, hn, hnc, hmc, c0, c1, c2, c3⟩ := tok_head hs
  have g0 := cell_at hg (i := 0) rfl
  have hn0 : 0 < n := by omega
  have hT : Hid (tokC t = [.int .i64 t.kind, .string ⟨t.text.toArray⟩, .int .i64 t.n, .int .i64 t.at_]) := Lib.hid rfl
  generalize (ByteArray.mk t.text.toArray) = tb at c1 hT
  clear hs hg hn hX hG
  have hm := more_any g ((w.alloc tokZ).drew) t r dv hv sv HP.out
  by_cases hk : (t.kind == 2) = true
  · have hne : ¬ t.kind = 4 := by simp at hk; omega
    have hsa : ∀ w, Calls Tryz.prog 53 #[.int .i64 t.n, .int .i64 m] w fun e w' => e = .returned (.bool (smallB t.n m)) ∧ w' = w := fun w => (small_any t.n m w h3 h4).mono fun _ _ ⟨a, b⟩ => ⟨a, b.symm⟩
    have hWs : w.heap.size < (World.drew (w.alloc tokZ)).heap.size := lt_of_block HX.out
    by_cases hsm : smallB t.n m = true
    · simp only [hk, hsm, if_true] at hm hsa ⊢
      have HM := Lib.hid hm
      have HS := Lib.hid hsa
      clear hk hm h hsm hsa
      go_enter Tryz.func101, Tryz.ntmps101
      go_wp2_with fail
      refine wp_region_still_tail 8 (by kernel_rfl) (by kernel_rfl) ?_
      change wpStill _ _ (World.drew (w.alloc tokZ)) (fun a' => wpList _ _ _ _ a' (World.drew (w.alloc tokZ))) _ _
      generalize World.drew (w.alloc tokZ) = W at *
      simp only [List.take_succ_cons, List.take_zero, List.drop_succ_cons, List.drop_zero]
      repeat still_step
      still_call HM.out
      repeat still_step
      refine wpStill_nil ?_
      go_wp2_with (first
        | (go_at_call 71; refine (must_ok _ _ _ _ _ _).mono ?_; rintro e W2 ⟨rfl, hb2⟩; (have HP2 := Lib.hid (HP.out.grown (below_grown0 hb2 none) (by simp))); (have HG2 := Lib.hid (HG.out.trans (below_grown0 hb2 _))); (have HX2 := Lib.hid (block_kept hb2 HX.out)); clear hb2)
        | (go_at_call 69; refine (next_any g _ t r dv hv sv HP2.out).mono ?_; rintro e W3 ⟨rfl, hp3, hg3⟩; simp only [if_neg hne] at hp3; (have HP3 := Lib.hid hp3); (have HG3 := Lib.hid (HG2.out.trans hg3)); (have HX3 := Lib.hid ((hg3.block w.heap.size (lt_of_block HX2.out) (by simp; omega)).trans HX2.out)); clear hp3 hg3; rw [hT.out]))
      refine wp_region_still_tail 5 (by kernel_rfl) (by kernel_rfl) ?_
      change wpStill _ _ (World.drew (W3.alloc (.cells #[.int .i64 t.kind, .string tb, .int .i64 t.n, .int .i64 t.at_] 83))) (fun a' => wpList _ _ _ _ a' (World.drew (W3.alloc (.cells #[.int .i64 t.kind, .string tb, .int .i64 t.n, .int .i64 t.at_] 83)))) _ _
      have hX4 : (World.drew (W3.alloc (.cells #[.int .i64 t.kind, .string tb, .int .i64 t.n, .int .i64 t.at_] 83))).heap[W3.heap.size]? = _ := heap_alloc_new W3 _
      have HP4 := Lib.hid (HP3.out.alloc (.cells #[.int .i64 t.kind, .string tb, .int .i64 t.n, .int .i64 t.at_] 83)).drew
      have HG4 := Lib.hid ((HG3.out.trans (World.grownBy_alloc W3 (.cells #[.int .i64 t.kind, .string tb, .int .i64 t.n, .int .i64 t.at_] 83) _)).trans (grownBy_drew _ _))
      have HX4 := Lib.hid (((grownBy_drew _ none).block w.heap.size (lt_of_block (block_kept (below_alloc1 W3 (.cells #[.int .i64 t.kind, .string tb, .int .i64 t.n, .int .i64 t.at_] 83)) HX3.out)) (by simp)).trans (block_kept (below_alloc1 W3 (.cells #[.int .i64 t.kind, .string tb, .int .i64 t.n, .int .i64 t.at_] 83)) HX3.out))
      generalize World.drew (W3.alloc (.cells #[.int .i64 t.kind, .string tb, .int .i64 t.n, .int .i64 t.at_] 83)) = W4 at *
      generalize W3.heap.size = k4 at *
      have d0 := cell_at hX4 (i := 0) rfl
      have d1 := cell_at hX4 (i := 1) rfl
      have d2 := cell_at hX4 (i := 2) rfl
      have d3 := cell_at hX4 (i := 3) rfl
      have HB4 := Lib.hid hX4
      clear hX4 c0 c1 c2 c3 g0
      simp only [List.take_succ_cons, List.take_zero, List.drop_succ_cons, List.drop_zero]
      repeat still_step
      still_call HS.out _
      repeat still_step
      refine wpStill_nil ?_
      go_wp2_with (first
        | (go_at_call 71; refine (must_ok _ _ _ _ _ _).mono ?_; rintro e W5 ⟨rfl, hb5⟩; (have HP5 := Lib.hid (HP4.out.grown (below_grown0 hb5 none) (by simp))); (have HG5 := Lib.hid (HG4.out.trans (below_grown0 hb5 _))); (have HX5 := Lib.hid (block_kept hb5 HX4.out)); (have hB5 := block_kept hb5 HB4.out); (have e0 := cell_at hB5 (i := 0) rfl); (have e1 := cell_at hB5 (i := 1) rfl); (have e2 := cell_at hB5 (i := 2) rfl); (have e3 := cell_at hB5 (i := 3) rfl); clear hb5 hB5 d0 d1 d2 d3)
        | (refine wpList_store_abs rfl 83 _ _ rfl w.heap.size #[.int .i64 t.kind, .string tb, .int .i64 t.n, .int .i64 t.at_] rfl rfl 83 _ HX5.out (by kernel_rfl) rfl (by simp [Value.oneCell']) ?_))
      intro W6 hX6 hg6
      have f0 := cell_at hX6 (i := 0) rfl
      have f1 := cell_at hX6 (i := 1) rfl
      have f2 := cell_at hX6 (i := 2) rfl
      have f3 := cell_at hX6 (i := 3) rfl
      have HP6 := Lib.hid (HP5.out.grown hg6 (fun k hk => by injection hk with hk; omega))
      have HG6 := Lib.hid (HG5.out.andThen hg6 (fun j hj => by injection hj with hj; left; omega))
      simp only [List.getElem_toArray, List.getElem_cons_zero, List.getElem_cons_succ] at f0 f1 f2 f3
      clear hX6 hg6
      go_wp2
      refine bodyPost_ret (v := .agg #[.int .i64 t.kind, .string tb, .int .i64 t.n, .int .i64 t.at_]) (by simp [results, Tryz.results101, go_sem, f0, f1, f2, f3]) rfl ?_
      exact ⟨⟨by rw [hT.out], HP6.out⟩, HG6.out⟩
    · have hsm := Bool.eq_false_iff.2 hsm
      simp only [hk, hsm, if_true, if_false, Bool.false_eq_true] at hm hsa ⊢
      have HM := Lib.hid hm
      have HS := Lib.hid hsa
      clear hk hm h hsm hsa
      go_enter Tryz.func101, Tryz.ntmps101
      go_wp2_with fail
      refine wp_region_still_tail 8 (by kernel_rfl) (by kernel_rfl) ?_
      change wpStill _ _ (World.drew (w.alloc tokZ)) (fun a' => wpList _ _ _ _ a' (World.drew (w.alloc tokZ))) _ _
      generalize World.drew (w.alloc tokZ) = W at *
      simp only [List.take_succ_cons, List.take_zero, List.drop_succ_cons, List.drop_zero]
      repeat still_step
      still_call HM.out
      repeat still_step
      refine wpStill_nil ?_
      go_wp2_with (first
        | (go_at_call 71; refine (must_ok _ _ _ _ _ _).mono ?_; rintro e W2 ⟨rfl, hb2⟩; (have HP2 := Lib.hid (HP.out.grown (below_grown0 hb2 none) (by simp))); (have HG2 := Lib.hid (HG.out.trans (below_grown0 hb2 _))); (have HX2 := Lib.hid (block_kept hb2 HX.out)); clear hb2)
        | (go_at_call 69; refine (next_any g _ t r dv hv sv HP2.out).mono ?_; rintro e W3 ⟨rfl, hp3, hg3⟩; simp only [if_neg hne] at hp3; (have HP3 := Lib.hid hp3); (have HG3 := Lib.hid (HG2.out.trans hg3)); (have HX3 := Lib.hid ((hg3.block w.heap.size (lt_of_block HX2.out) (by simp; omega)).trans HX2.out)); clear hp3 hg3; rw [hT.out]))
      refine wp_region_still_tail 5 (by kernel_rfl) (by kernel_rfl) ?_
      change wpStill _ _ (World.drew (W3.alloc (.cells #[.int .i64 t.kind, .string tb, .int .i64 t.n, .int .i64 t.at_] 83))) (fun a' => wpList _ _ _ _ a' (World.drew (W3.alloc (.cells #[.int .i64 t.kind, .string tb, .int .i64 t.n, .int .i64 t.at_] 83)))) _ _
      have hX4 : (World.drew (W3.alloc (.cells #[.int .i64 t.kind, .string tb, .int .i64 t.n, .int .i64 t.at_] 83))).heap[W3.heap.size]? = _ := heap_alloc_new W3 _
      have HP4 := Lib.hid (HP3.out.alloc (.cells #[.int .i64 t.kind, .string tb, .int .i64 t.n, .int .i64 t.at_] 83)).drew
      have HG4 := Lib.hid ((HG3.out.trans (World.grownBy_alloc W3 (.cells #[.int .i64 t.kind, .string tb, .int .i64 t.n, .int .i64 t.at_] 83) _)).trans (grownBy_drew _ _))
      have HX4 := Lib.hid (((grownBy_drew _ none).block w.heap.size (lt_of_block (block_kept (below_alloc1 W3 (.cells #[.int .i64 t.kind, .string tb, .int .i64 t.n, .int .i64 t.at_] 83)) HX3.out)) (by simp)).trans (block_kept (below_alloc1 W3 (.cells #[.int .i64 t.kind, .string tb, .int .i64 t.n, .int .i64 t.at_] 83)) HX3.out))
      generalize World.drew (W3.alloc (.cells #[.int .i64 t.kind, .string tb, .int .i64 t.n, .int .i64 t.at_] 83)) = W4 at *
      generalize W3.heap.size = k4 at *
      have d0 := cell_at hX4 (i := 0) rfl
      have d1 := cell_at hX4 (i := 1) rfl
      have d2 := cell_at hX4 (i := 2) rfl
      have d3 := cell_at hX4 (i := 3) rfl
      have HB4 := Lib.hid hX4
      clear hX4 c0 c1 c2 c3 g0
      simp only [List.take_succ_cons, List.take_zero, List.drop_succ_cons, List.drop_zero]
      repeat still_step
      still_call HS.out _
      repeat still_step
      refine wpStill_nil ?_
      go_wp2_with (go_at_call 71; refine (must_bad _ _ _ _ _ _).mono ?_; rintro e W5 ⟨rfl, hb5⟩; exact ⟨rfl, rfl, HG4.out.trans (below_grown0 hb5 _)⟩)
  · have hk := Bool.eq_false_iff.2 hk
    simp only [hk, Bool.false_eq_true, if_false] at hm ⊢
    have HM := Lib.hid hm
    clear hk hm h
    go_enter Tryz.func101, Tryz.ntmps101
    go_wp2_with fail
    refine wp_region_still_tail 8 (by kernel_rfl) (by kernel_rfl) ?_
    change wpStill _ _ (World.drew (w.alloc tokZ)) (fun a' => wpList _ _ _ _ a' (World.drew (w.alloc tokZ))) _ _
    generalize World.drew (w.alloc tokZ) = W at *
    simp only [List.take_succ_cons, List.take_zero, List.drop_succ_cons, List.drop_zero]
    repeat still_step
    still_call HM.out
    repeat still_step
    refine wpStill_nil ?_
    go_wp2_with (go_at_call 71; refine (must_bad _ _ _ _ _ _).mono ?_; rintro e w' ⟨rfl, hb2⟩; exact ⟨rfl, rfl, HG.out.trans (below_grown0 hb2 _)⟩)
end Go.Proofs.YtoahaigfjfeopaaGreatDoor

/- Which blocks may have changed: the frame for the parser's methods. -/
namespace Go.Proofs.YtoahaigfjfeopaaGreatDoor
open Go.RowKit

/-- Only blocks in S, and new ones, may have changed. -/
structure Chg (S : Nat → Prop) (w w1 : World) : Prop where
  os : w1.os = w.os
  tape : w1.tape = w.tape
  output : w1.output = w.output
  size : w.heap.size ≤ w1.heap.size
  block : ∀ k, k < w.heap.size → ¬ S k → w1.heap[k]? = w.heap[k]?
theorem Chg.refl (S : Nat → Prop) (w : World) : Chg S w w := ⟨rfl, rfl, rfl, Nat.le_refl _, fun _ _ _ => rfl⟩
theorem Chg.trans {S T : Nat → Prop} {a b c : World} (h : Chg S a b) (k : Chg T b c) (hs : ∀ j, j < a.heap.size → T j → S j) : Chg S a c :=
  ⟨k.os.trans h.os, k.tape.trans h.tape, k.output.trans h.output, Nat.le_trans h.size k.size,
    fun j hj hn => (k.block j (Nat.lt_of_lt_of_le hj h.size) (fun ht => hn (hs j hj ht))).trans (h.block j hj hn)⟩
theorem Chg.mono {S T : Nat → Prop} {a b : World} (h : Chg S a b) (hs : ∀ j, j < a.heap.size → S j → T j) : Chg T a b :=
  ⟨h.os, h.tape, h.output, h.size, fun j hj hn => h.block j hj (fun hs' => hn (hs j hj hs'))⟩
theorem chg_of_grown {a b : World} {row : Option Nat} (h : a.grownBy b row) : Chg (fun k => row = some k) a b :=
  ⟨h.os, h.tape, h.output, h.size, fun j hj hn => h.block j hj (fun e => hn e.symm)⟩
theorem chg_of_below {a b : World} (h : Below a.heap.size a b) (S : Nat → Prop) : Chg S a b := ⟨h.os, h.tape, h.output, h.size, fun j hj _ => h.block j hj⟩
theorem Chg.below {S : Nat → Prop} {a b : World} {B : Nat} (h : Chg S a b) (hs : ∀ k, k < B → ¬ S k) (hB : B ≤ a.heap.size) : Below B a b :=
  ⟨h.os, h.tape, h.output, h.size, fun j hj => h.block j (Nat.lt_of_lt_of_le hj hB) (hs j hj)⟩
theorem Chg.heap {S : Nat → Prop} {a b : World} (h : Chg S a b) {k : Nat} {o : Obj} (hk : a.heap[k]? = some o) (hn : ¬ S k) : b.heap[k]? = some o :=
  (h.block k (Array.getElem?_eq_some_iff.1 hk).1 hn).trans hk
theorem Sl.chg {α : Type} {d : Kd α} {S : Nat → Prop} {a b : World} {ok : Nat → Prop} {v : Value} {xs : List α} (hz : 0 < d.sz) (h : Sl d a ok v xs) (hc : Chg S a b) (hs : ∀ k, ok k → ¬ S k) : Sl d b ok v xs :=
  (h.move hz fun k hk hl => hc.block k hl (hs k hk)).mono fun _ h => h.1
theorem PB.chg {g : Nat} {a b : World} {ts : List Tok} {dv hv sv : Value} {S : Nat → Prop} (h : PB g a ts dv hv sv) (hc : Chg S a b) (hs : ∀ k, k ≤ g → ¬ S k) : PB g b ts dv hv sv := by
  obtain ⟨A, n, c, h, hsl⟩ := h
  exact ⟨A, n, c, hc.heap h (hs g (Nat.le_refl _)), hsl.chg (by decide) hc fun k hk => hs k (Nat.le_of_lt hk)⟩
/-- A row of numbers of the call's own. -/
def OwnI (base : Nat) (v : Value) (xs : List Int) (w : World) : Prop := w.ownsRow base 3 1 v xs.length (xs.map (Value.int .i64))
theorem OwnI.sl {base : Nat} {v : Value} {xs : List Int} {w : World} (h : OwnI base v xs w) (hl : xs.length ≤ 140737488355328) : Sl (Kd.int .i64) w (base ≤ ·) v xs := by
  rcases h.2 with ⟨rfl, h0⟩ | ⟨g, cap, cur, rfl, hb, hg, hnc, hcm, hcs, ht⟩
  · obtain rfl : xs = [] := List.eq_nil_of_length_eq_zero h0
    exact sl_nil _ _
  · refine ⟨_, cap, rfl, hnc, hl, fun j x hj => ⟨g, 0, [.int .i64 x], rfl, hb, rfl, fun i u hu => ?_⟩⟩
    obtain rfl : i = 0 := by have := (List.getElem?_eq_some_iff.1 hu).1; simpa using this
    have hc := h.cells (g := g) rfl j (.int .i64 x) (by rw [List.getElem?_map, hj]; rfl)
    have e : (⟨g, 0, none⟩ : Addr).add j = ⟨g, 0 + j, none⟩ := by unfold Addr.add; split <;> simp_all
    rw [e] at hc
    simp at hu; subst hu
    show w.cell? ⟨g, 0 + (j * 1 + 0), none⟩ = _
    rw [Nat.mul_one, Nat.add_zero]
    exact hc
theorem OwnI.chg {base : Nat} {S : Nat → Prop} {v : Value} {xs : List Int} {a b : World} (h : OwnI base v xs a) (hc : Chg S a b) (hs : ∀ k, v.ownBlock = some k → ¬ S k) : OwnI base v xs b := by
  obtain ⟨h1, h2⟩ := h
  refine ⟨by first | exact Nat.le_trans h1 hc.size | exact h1, ?_⟩
  rcases h2 with ⟨rfl, h0⟩ | ⟨g, cap, cur, rfl, hb, hg, r⟩
  · exact .inl ⟨rfl, h0⟩
  · exact .inr ⟨g, cap, cur, rfl, hb, by first | exact hc.heap hg (hs g rfl) | exact (hc.block g (Array.getElem?_eq_some_iff.1 hg).1 (hs g rfl)).trans hg, r⟩
end Go.Proofs.YtoahaigfjfeopaaGreatDoor
