/- What small functions on numbers and rows of numbers compute: tuple.Rising, Compare, slices.Index and Contains, inst.small. -/
import Derived.Test.YtoahaigfjfeopaaGreatDoorProg
import Derived.Test.YtoahaigfjfeopaaGreatDoorBa
import Derived.Test.YtoahaigfjfeopaaGreatDoorPa
import Derived.WalkKit
import Derived.ProofKit
import Derived.Deep.QuietTactic
import Derived.BigQuiet
import Derived.WalkSpells
import Derived.Outline
import Derived.Lib.Hide
namespace Go.Proofs.YtoahaigfjfeopaaGreatDoor
open Go.RowKit

theorem small_any (n m : Int) (w : World) (h3 : 0 ≤ m) (h4 : m ≤ 9223372036854775807) :
    Calls Tryz.prog 53 #[.int .i64 n, .int .i64 m] w fun e w' => e = .returned (.bool (smallB n m)) ∧ w = w' := by
  by_cases h : -m ≤ n
  · go_enter Tryz.func53, Tryz.ntmps53
    go_wp2
    go_ret
    exact ⟨by simp [smallB, h], rfl⟩
  · go_enter Tryz.func53, Tryz.ntmps53
    go_wp2
    go_ret
    exact ⟨by simp [smallB]; omega, rfl⟩
theorem small64_any (n m : Int) (w : World) (h3 : 0 ≤ m) (h4 : m ≤ 9223372036854775807) :
    Calls Tryz.prog 60 #[.int .i64 n, .int .i64 m] w fun e w' => e = .returned (.bool (smallB n m)) ∧ w = w' := by
  by_cases h : -m ≤ n
  · go_enter Tryz.func60, Tryz.ntmps60
    go_wp2
    go_ret
    exact ⟨by simp [smallB, h], rfl⟩
  · go_enter Tryz.func60, Tryz.ntmps60
    go_wp2
    go_ret
    exact ⟨by simp [smallB]; omega, rfl⟩
theorem cmp1_any (a b : Int) (w : World) :
    Calls Tryz.prog 118 #[.int .i64 a, .int .i64 b] w fun e w' => e = .returned (.int .i64 (cmp1 a b)) ∧ w = w' := by
  by_cases h : a < b
  · go_enter Tryz.func118, Tryz.ntmps118
    go_wp2
    go_ret
    exact ⟨by simp [cmp1, h], rfl⟩
  · by_cases h2 : b < a
    · go_enter Tryz.func118, Tryz.ntmps118
      go_wp2
      go_ret
      exact ⟨ret_int (by unfold cmp1; rw [if_neg (by omega), if_pos h2]), rfl⟩
    · go_enter Tryz.func118, Tryz.ntmps118
      go_wp2
      go_ret
      exact ⟨ret_int (by unfold cmp1; rw [if_neg (by omega), if_neg (by omega)]), rfl⟩

theorem compare_any (v1 v2 : Value) (xs ys : List Int) (ok : Nat → Prop) (w : World) (h1 : Sl (Kd.int .i64) w ok v1 xs) (h2 : Sl (Kd.int .i64) w ok v2 ys) :
    Calls Tryz.prog 111 #[v1, v2] w fun e w' => e = .returned (.int .i64 (cmpL xs ys)) ∧ w = w' := by
  obtain ⟨A, c, rfl, hc, hm, hA⟩ := h1
  obtain ⟨A', c', rfl, hc', hm', hA'⟩ := h2
  go_enter Tryz.func111, Tryz.ntmps111
  go_wp2
  go_loop [11] (fun i => ∃ k : Nat, i = .int .i64 k ∧ k ≤ xs.length ∧ k ≤ ys.length ∧ Hid (cmpL xs ys = cmpL (xs.drop k) (ys.drop k))) (fun i => xs.length - (intOf i).toNat)
  case atStart => exact ⟨0, rfl, by omega, by omega, Lib.hid rfl⟩
  case round =>
    obtain ⟨k, rfl, hk, hk', H⟩ := hrel
    by_cases hlt : k < xs.length
    · obtain ⟨b, o, rfl, hcell⟩ := hA.num hlt
      by_cases hlt' : k < ys.length
      · obtain ⟨b', o', rfl, hcell'⟩ := hA'.num hlt'
        clear hA hA'
        have H' : Hid (cmpL (xs.drop k) (ys.drop k) = if nth 0 xs k < nth 0 ys k then -1 else if nth 0 ys k < nth 0 xs k then 1 else cmpL (xs.drop (k + 1)) (ys.drop (k + 1))) := by
          rw [drop_cons xs 0 k hlt, drop_cons ys 0 k hlt', cmpL]; exact Lib.hid rfl
        by_cases h : nth 0 xs k < nth 0 ys k
        · have hc1 : cmp1 (nth 0 xs k) (nth 0 ys k) = -1 := by simp [cmp1, h]
          go_wp2_with (go_at_call 118; refine (cmp1_any _ _ _).mono ?_; rintro e w' ⟨rfl, rfl⟩)
          go_ret
          exact ⟨ret_int (by rw [H.out, H'.out, if_pos h]), rfl⟩
        · by_cases h2 : nth 0 ys k < nth 0 xs k
          · have hc1 : cmp1 (nth 0 xs k) (nth 0 ys k) = 1 := by simp [cmp1, h, h2]
            go_wp2_with (go_at_call 118; refine (cmp1_any _ _ _).mono ?_; rintro e w' ⟨rfl, rfl⟩)
            go_ret
            exact ⟨ret_int (by rw [H.out, H'.out, if_neg (by omega), if_pos h2]), rfl⟩
          · have hc1 : cmp1 (nth 0 xs k) (nth 0 ys k) = 0 := by simp [cmp1, h, h2]
            go_wp2_with (go_at_call 118; refine (cmp1_any _ _ _).mono ?_; rintro e w' ⟨rfl, rfl⟩)
            go_round
            case rel => exact ⟨k + 1, by go_num, by omega, by omega, Lib.hid (by rw [H.out, H'.out, if_neg (by omega), if_neg (by omega)])⟩
            case measure => simp [intOf]; omega
      · go_wp2
        go_ret
        refine ⟨ret_int ?_, rfl⟩
        rw [H.out, drop_cons xs 0 k hlt, List.drop_eq_nil_of_le (show ys.length ≤ k by omega)]; rfl
    · by_cases hlt' : k < ys.length
      · go_wp2
        go_ret
        refine ⟨ret_int ?_, rfl⟩
        rw [H.out, drop_cons ys 0 k hlt', List.drop_eq_nil_of_le (show xs.length ≤ k by omega)]; rfl
      · go_wp2
        go_ret
        refine ⟨ret_int ?_, rfl⟩
        rw [H.out, List.drop_eq_nil_of_le (show xs.length ≤ k by omega), List.drop_eq_nil_of_le (show ys.length ≤ k by omega)]; rfl

theorem tcompare_any (v1 v2 : Value) (xs ys : List Int) (ok : Nat → Prop) (w : World) (h1 : Sl (Kd.int .i64) w ok v1 xs) (h2 : Sl (Kd.int .i64) w ok v2 ys) :
    Calls Tryz.prog 89 #[v1, v2] w fun e w' => e = .returned (.int .i64 (cmpL xs ys)) ∧ w = w' := by
  go_enter Tryz.func89, Tryz.ntmps89
  go_wp2_with (go_at_call 111; refine (compare_any _ _ _ _ _ _ h1 h2).mono ?_; rintro e w' ⟨rfl, rfl⟩)
  go_ret
  exact ⟨rfl, rfl⟩

theorem index_any (v : Value) (xs : List Int) (x : Int) (ok : Nat → Prop) (w : World) (h1 : Sl (Kd.int .i64) w ok v xs) :
    Calls Tryz.prog 112 #[v, .int .i64 x] w fun e w' => e = .returned (.int .i64 (indexFrom x 0 xs)) ∧ w = w' := by
  obtain ⟨A, c, rfl, hc, hm, hA⟩ := h1
  go_enter Tryz.func112, Tryz.ntmps112
  go_wp2
  go_loop [8] (fun i => ∃ k : Nat, i = .int .i64 k ∧ k ≤ xs.length ∧ Hid (indexFrom x 0 xs = indexFrom x k (xs.drop k))) (fun i => xs.length - (intOf i).toNat)
  case atStart => exact ⟨0, rfl, by omega, Lib.hid rfl⟩
  case round =>
    obtain ⟨k, rfl, hk, H⟩ := hrel
    by_cases hlt : k < xs.length
    · obtain ⟨b, o, rfl, hcell⟩ := hA.num hlt
      have H' : Hid (indexFrom x k (xs.drop k) = if nth 0 xs k = x then (k : Int) else indexFrom x (k + 1) (xs.drop (k + 1))) := by
        rw [drop_cons xs 0 k hlt, indexFrom]; exact Lib.hid rfl
      clear hA
      by_cases h : nth 0 xs k = x
      · have hb : (x == nth 0 xs k) = true := by simp [h]
        have h' := Lib.hid h; clear h
        go_wp2
        go_ret
        exact ⟨ret_int (by rw [H.out, H'.out, if_pos h'.out]), rfl⟩
      · have hb : (x == nth 0 xs k) = false := by simp; exact fun e => h e.symm
        go_wp2
        go_round
        case rel => exact ⟨k + 1, by go_num, by omega, Lib.hid (by rw [H.out, H'.out, if_neg h])⟩
        case measure => simp [intOf]; omega
    · go_wp2
      go_ret
      refine ⟨ret_int ?_, rfl⟩
      rw [H.out, List.drop_eq_nil_of_le (by omega)]; rfl

theorem contains_any (v : Value) (xs : List Int) (x : Int) (ok : Nat → Prop) (w : World) (h1 : Sl (Kd.int .i64) w ok v xs) :
    Calls Tryz.prog 90 #[v, .int .i64 x] w fun e w' => e = .returned (.bool (decide (x ∈ xs))) ∧ w = w' := by
  have hb := indexFrom_ge x xs 0
  have hx : Hid (decide (x ∈ xs) = decide (0 ≤ indexFrom x 0 xs)) := Lib.hid (decide_eq_decide.2 hb.symm)
  clear hb
  go_enter Tryz.func90, Tryz.ntmps90
  go_wp2_with (go_at_call 112; refine (index_any _ _ _ _ _ h1).mono ?_; rintro e w' ⟨rfl, rfl⟩)
  go_ret
  exact ⟨ret_bool (by rw [hx.out]), rfl⟩

theorem rising_any (v : Value) (xs : List Int) (ok : Nat → Prop) (w : World) (h1 : Sl (Kd.int .i64) w ok v xs) :
    Calls Tryz.prog 52 #[v] w fun e w' => e = .returned (.bool (risingB xs)) ∧ ∃ n, w' = w.drewN n := by
  obtain ⟨A, c, rfl, hc, hm, hA⟩ := h1
  go_enter Tryz.func52, Tryz.ntmps52
  go_wp2
  go_loopw [3] (fun i wr => ∃ k : Nat, i = .int .i64 (k + 1) ∧ Hid (risingB xs = risingB (xs.drop k)) ∧ (k ≤ xs.length) ∧ ∃ n, wr = w.drewN n) (fun i _ => xs.length - (intOf i).toNat)
  case atStart => exact ⟨0, rfl, Lib.hid rfl, by omega, 0, rfl⟩
  case round =>
    obtain ⟨k, rfl, H, hk, nd, rfl⟩ := hrel
    by_cases hlt : k + 1 < xs.length
    · obtain ⟨b, o, rfl, c1⟩ := hA.num (j := k) (by omega)
      obtain ⟨b', o', he, c2⟩ := hA.num hlt
      injection he with he
      injection he with he1 he2
      subst he1 he2
      have H' := Lib.hid (risingB_drop xs k hlt)
      have h1 : IntKind.i64.wrap ((k:Int) + 1 - 1) = k := by rw [show (k:Int) + 1 - 1 = k from by omega]; exact IntWalk.i64_in _ (by omega)
      have h2 : ((k:Int) + 1).toNat = k + 1 := by omega
      clear hA
      by_cases h : nth 0 xs (k + 1) ≤ nth 0 xs k
      · go_wp2
        go_quiet (fail)
        go_wp2
        go_ret
        exact ⟨ret_bool (by rw [H.out, H'.out]; simp; omega), by first | exact ⟨_, rfl⟩ | exact ⟨_, World.drewN_drewN ..⟩⟩
      · go_wp2
        go_quiet (fail)
        go_wp2
        go_roundw
        case rel => exact ⟨k + 1, by go_num, Lib.hid (by rw [H.out, H'.out]; simp; omega), by omega, _, rfl⟩
        case measure => simp [intOf]; omega
    · go_wp2
      go_ret
      exact ⟨ret_bool (by rw [H.out, risingB_last xs k (by omega)]), _, rfl⟩
end Go.Proofs.YtoahaigfjfeopaaGreatDoor
