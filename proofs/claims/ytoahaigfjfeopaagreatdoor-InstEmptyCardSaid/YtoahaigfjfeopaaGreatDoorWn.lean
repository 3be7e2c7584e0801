/- What scan's small functions compute. -/
import Derived.Test.YtoahaigfjfeopaaGreatDoorWb
import Derived.Test.YtoahaigfjfeopaaGreatDoorPe
import Derived.Test.YtoahaigfjfeopaaGreatDoorShelf
import Derived.Laws.DeepStrings4
import Derived.Deep.DeepFit
namespace Go.Proofs.YtoahaigfjfeopaaGreatDoor
open Go.RowKit

theorem letter_any (c : Int) (w : World) (h0 : 0 ≤ c) (h1 : c ≤ 255) : Calls Tryz.prog 97 #[.int .u8 c] w fun e w' => e = .returned (.bool (decide (97 ≤ c) && decide (c ≤ 122))) ∧ w = w' := by
  by_cases h : 97 ≤ c
  · go_enter Tryz.func97, Tryz.ntmps97
    go_wp2
    go_ret
    exact ⟨ret_bool (by simp [h]), rfl⟩
  · go_enter Tryz.func97, Tryz.ntmps97
    go_wp2
    go_ret
    exact ⟨ret_bool (by simp; omega), rfl⟩
theorem digit_any (c : Int) (w : World) (h0 : 0 ≤ c) (h1 : c ≤ 255) : Calls Tryz.prog 98 #[.int .u8 c] w fun e w' => e = .returned (.bool (decide (48 ≤ c) && decide (c ≤ 57))) ∧ w = w' := by
  by_cases h : 48 ≤ c
  · go_enter Tryz.func98, Tryz.ntmps98
    go_wp2
    go_ret
    exact ⟨ret_bool (by simp [h]), rfl⟩
  · go_enter Tryz.func98, Tryz.ntmps98
    go_wp2
    go_ret
    exact ⟨ret_bool (by simp; omega), rfl⟩
theorem eol_any (c : Int) (w : World) : Calls Tryz.prog 96 #[.int .u8 c] w fun e w' => e = .returned (.bool (c != 10)) ∧ w = w' := by
  go_enter Tryz.func96, Tryz.ntmps96
  go_wp2
  go_ret
  exact ⟨rfl, rfl⟩
theorem letter_u (c : UInt8) (w : World) : Calls Tryz.prog 97 #[.int .u8 (c.toNat : Int)] w fun e w' => e = .returned (.bool (isLetter c)) ∧ w = w' := by
  have := c.toNat_lt
  refine (letter_any c.toNat w (by omega) (by omega)).mono ?_
  rintro e w' ⟨rfl, rfl⟩
  exact ⟨ret_bool (by unfold isLetter; congr 1 <;> (rw [decide_eq_decide]; omega)), rfl⟩
theorem digit_u (c : UInt8) (w : World) : Calls Tryz.prog 98 #[.int .u8 (c.toNat : Int)] w fun e w' => e = .returned (.bool (isDigit c)) ∧ w = w' := by
  have := c.toNat_lt
  refine (digit_any c.toNat w (by omega) (by omega)).mono ?_
  rintro e w' ⟨rfl, rfl⟩
  exact ⟨ret_bool (by unfold isDigit; congr 1 <;> (rw [decide_eq_decide]; omega)), rfl⟩
theorem eol_u (c : UInt8) (w : World) : Calls Tryz.prog 96 #[.int .u8 (c.toNat : Int)] w fun e w' => e = .returned (.bool (notEol c)) ∧ w = w' := by
  refine (eol_any c.toNat w).mono ?_
  rintro e w' ⟨rfl, rfl⟩
  refine ⟨ret_bool ?_, rfl⟩
  unfold notEol
  by_cases h : c.toNat = 10
  · simp [h]
  · have h' : ¬ (c.toNat : Int) = 10 := by omega
    simp [h, h']
theorem byte_nth (l : List UInt8) (k : Nat) (h : k < l.length) : ∀ h', (ByteArray.mk l.toArray)[k]'h' = nth 0 l k := by
  intro h'
  have e : (ByteArray.mk l.toArray)[k]'h' = l[k] := by simp [ByteArray.getElem_eq_getElem_data]
  rw [e]
  simp [nth, List.getD_eq_getElem?_getD, List.getElem?_eq_getElem h]
theorem run_letter (l : List UInt8) (w : World) (hl : l.length ≤ 140737488355328) : Calls Tryz.prog 95 #[.string ⟨l.toArray⟩, .func (.func 97) #[] #[]] w fun e w' => e = .returned (.int .i64 (runP isLetter l)) ∧ w = w' := by
  go_enter Tryz.func95, Tryz.ntmps95
  go_wp2
  go_loop [5] (fun i => ∃ k : Nat, i = .int .i64 k ∧ k ≤ l.length ∧ Hid (runP isLetter l = k + runP isLetter (l.drop k))) (fun i => l.length - (intOf i).toNat)
  case atStart => exact ⟨0, rfl, by omega, Lib.hid (by simp)⟩
  case round =>
    obtain ⟨k, rfl, hk, H⟩ := hrel
    by_cases hlt : k < l.length
    · have H' := Lib.hid (runP_drop isLetter l k hlt)
      cases hp : isLetter (nth 0 l k)
      · go_wp2_with (go_at_call 97; refine (letter_u _ _).mono ?_; rintro e w' ⟨rfl, rfl⟩; simp only [byte_nth l k hlt, hp])
        go_ret
        exact ⟨ret_int (by rw [H.out, H'.out, hp]; simp), rfl⟩
      · go_wp2_with (go_at_call 97; refine (letter_u _ _).mono ?_; rintro e w' ⟨rfl, rfl⟩; simp only [byte_nth l k hlt, hp])
        go_round
        case rel => exact ⟨k + 1, by go_num, by omega, Lib.hid (by rw [H.out, H'.out, hp]; simp; omega)⟩
        case measure => simp [intOf]; omega
    · go_wp2
      go_ret
      exact ⟨ret_int (by rw [H.out, List.drop_eq_nil_of_le (by omega)]; simp [runP]), rfl⟩
theorem run_digit (l : List UInt8) (w : World) (hl : l.length ≤ 140737488355328) : Calls Tryz.prog 95 #[.string ⟨l.toArray⟩, .func (.func 98) #[] #[]] w fun e w' => e = .returned (.int .i64 (runP isDigit l)) ∧ w = w' := by
  go_enter Tryz.func95, Tryz.ntmps95
  go_wp2
  go_loop [5] (fun i => ∃ k : Nat, i = .int .i64 k ∧ k ≤ l.length ∧ Hid (runP isDigit l = k + runP isDigit (l.drop k))) (fun i => l.length - (intOf i).toNat)
  case atStart => exact ⟨0, rfl, by omega, Lib.hid (by simp)⟩
  case round =>
    obtain ⟨k, rfl, hk, H⟩ := hrel
    by_cases hlt : k < l.length
    · have H' := Lib.hid (runP_drop isDigit l k hlt)
      cases hp : isDigit (nth 0 l k)
      · go_wp2_with (go_at_call 98; refine (digit_u _ _).mono ?_; rintro e w' ⟨rfl, rfl⟩; simp only [byte_nth l k hlt, hp])
        go_ret
        exact ⟨ret_int (by rw [H.out, H'.out, hp]; simp), rfl⟩
      · go_wp2_with (go_at_call 98; refine (digit_u _ _).mono ?_; rintro e w' ⟨rfl, rfl⟩; simp only [byte_nth l k hlt, hp])
        go_round
        case rel => exact ⟨k + 1, by go_num, by omega, Lib.hid (by rw [H.out, H'.out, hp]; simp; omega)⟩
        case measure => simp [intOf]; omega
    · go_wp2
      go_ret
      exact ⟨ret_int (by rw [H.out, List.drop_eq_nil_of_le (by omega)]; simp [runP]), rfl⟩
theorem run_eol (l : List UInt8) (w : World) (hl : l.length ≤ 140737488355328) : Calls Tryz.prog 95 #[.string ⟨l.toArray⟩, .func (.func 96) #[] #[]] w fun e w' => e = .returned (.int .i64 (runP notEol l)) ∧ w = w' := by
  go_enter Tryz.func95, Tryz.ntmps95
  go_wp2
  go_loop [5] (fun i => ∃ k : Nat, i = .int .i64 k ∧ k ≤ l.length ∧ Hid (runP notEol l = k + runP notEol (l.drop k))) (fun i => l.length - (intOf i).toNat)
  case atStart => exact ⟨0, rfl, by omega, Lib.hid (by simp)⟩
  case round =>
    obtain ⟨k, rfl, hk, H⟩ := hrel
    by_cases hlt : k < l.length
    · have H' := Lib.hid (runP_drop notEol l k hlt)
      cases hp : notEol (nth 0 l k)
      · go_wp2_with (go_at_call 96; refine (eol_u _ _).mono ?_; rintro e w' ⟨rfl, rfl⟩; simp only [byte_nth l k hlt, hp])
        go_ret
        exact ⟨ret_int (by rw [H.out, H'.out, hp]; simp), rfl⟩
      · go_wp2_with (go_at_call 96; refine (eol_u _ _).mono ?_; rintro e w' ⟨rfl, rfl⟩; simp only [byte_nth l k hlt, hp])
        go_round
        case rel => exact ⟨k + 1, by go_num, by omega, Lib.hid (by rw [H.out, H'.out, hp]; simp; omega)⟩
        case measure => simp [intOf]; omega
    · go_wp2
      go_ret
      exact ⟨ret_int (by rw [H.out, List.drop_eq_nil_of_le (by omega)]; simp [runP]), rfl⟩

theorem indexByte_any (l : List UInt8) (c : UInt8) (w : World) : Calls Tryz.prog 94 #[.string ⟨l.toArray⟩, .int .u8 (c.toNat : Int)] w fun e w' => e = .returned (.int .i64 (Lib.indexByte l c)) ∧ w = w' := by
  refine (Tryz.strings_IndexByte ⟨l.toArray⟩ c.toNat w).mono ?_
  rintro e w' ⟨rfl, rfl⟩
  exact ⟨ret_int (by simp), rfl⟩
end Go.Proofs.YtoahaigfjfeopaaGreatDoor
