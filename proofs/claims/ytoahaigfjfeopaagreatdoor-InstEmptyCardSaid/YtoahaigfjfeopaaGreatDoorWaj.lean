/- arboristref01.Compare, arboristref06.ints, tuples. -/
import Derived.Test.YtoahaigfjfeopaaGreatDoorWai
namespace Go.Proofs.YtoahaigfjfeopaaGreatDoor
open Go.RowKit
attribute [local irreducible] wpStill wpLex Calls

theorem cmpL_zero : ∀ (xs ys : List Int), cmpL xs ys = 0 ↔ xs = ys
  | [], [] => by simp [cmpL]
  | [], _ :: _ => by simp [cmpL]
  | _ :: _, [] => by simp [cmpL]
  | a :: l, b :: m => by
    rw [cmpL]
    split
    · constructor
      · intro h; omega
      · intro h; injection h with h; omega
    · split
      · constructor
        · intro h; omega
        · intro h; injection h with h; omega
      · rw [cmpL_zero l m]
        have : a = b := by omega
        rw [this]; simp
theorem cmpL_drop (xs ys : List Int) (k : Nat) (h : k < xs.length) (h' : k < ys.length) : cmpL (xs.drop k) (ys.drop k) = if nth 0 xs k < nth 0 ys k then -1 else if nth 0 ys k < nth 0 xs k then 1 else cmpL (xs.drop (k + 1)) (ys.drop (k + 1)) := by
  rw [drop_cons xs 0 k h, drop_cons ys 0 k h', cmpL]

theorem refcmp_any (v1 v2 : Value) (xs ys : List Int) (ok : Nat → Prop) (w : World) (h1 : Sl (Kd.int .i64) w ok v1 xs) (h2 : Sl (Kd.int .i64) w ok v2 ys) :
    Calls Tryz.prog 66 #[v1, v2] w fun e w' => e = .returned (.int .i64 (cmpL xs ys)) ∧ ∃ n, w' = w.drewN n := by
  obtain ⟨A, c, rfl, hc, hm, hA⟩ := h1
  obtain ⟨A', c', rfl, hc', hm', hA'⟩ := h2
  go_enter Tryz.func66, Tryz.ntmps66
  go_wp2
  go_loopw [5] (fun i wr => ∃ k : Nat, i = .int .i64 k ∧ k ≤ xs.length ∧ k ≤ ys.length ∧ Hid (cmpL xs ys = cmpL (xs.drop k) (ys.drop k)) ∧ ∃ n, wr = w.drewN n) (fun i _ => xs.length - (intOf i).toNat)
  case atStart => exact ⟨0, rfl, by omega, by omega, Lib.hid rfl, 0, rfl⟩
  case round =>
    obtain ⟨k, rfl, hk, hk', H, nd, rfl⟩ := hrel
    by_cases hlt : k < xs.length
    · by_cases hlt' : k < ys.length
      · obtain ⟨b, o, rfl, hcell⟩ := hA.num hlt
        obtain ⟨b', o', rfl, hcell'⟩ := hA'.num hlt'
        clear hA hA'
        have H' := Lib.hid (cmpL_drop xs ys k hlt hlt')
        by_cases h : nth 0 xs k < nth 0 ys k
        · go_wp2
          go_quiet (fail)
          go_wp2
          go_ret
          exact ⟨ret_int (by rw [H.out, H'.out, if_pos h]), by first | exact ⟨_, rfl⟩ | exact ⟨_, World.drewN_drewN ..⟩⟩
        · by_cases h2 : nth 0 ys k < nth 0 xs k
          · go_wp2
            go_quiet (fail)
            go_wp2
            go_quiet (fail)
            go_wp2
            go_ret
            exact ⟨ret_int (by rw [H.out, H'.out, if_neg (by omega), if_pos h2]), _, by rw [World.drewN_drewN, World.drewN_drewN]⟩
          · go_wp2
            go_quiet (fail)
            go_wp2
            go_quiet (fail)
            go_wp2
            go_roundw
            case rel => exact ⟨k + 1, by go_num, by omega, by omega, Lib.hid (by rw [H.out, H'.out, if_neg (by omega), if_neg (by omega)]), _, rfl⟩
            case measure => simp [intOf]; omega
      · go_wp2
        go_ret
        refine ⟨ret_int ?_, _, rfl⟩
        rw [H.out, drop_cons xs 0 k hlt, List.drop_eq_nil_of_le (show ys.length ≤ k by omega)]; rfl
    · have hb1 := Lib.hid hlt
      by_cases hlt' : k < ys.length
      · go_wp2
        go_ret
        refine ⟨ret_int ?_, _, rfl⟩
        rw [H.out, drop_cons ys 0 k hlt', List.drop_eq_nil_of_le (show xs.length ≤ k by omega)]; rfl
      · go_wp2
        go_ret
        refine ⟨ret_int ?_, _, rfl⟩
        rw [H.out, List.drop_eq_nil_of_le (show xs.length ≤ k by omega), List.drop_eq_nil_of_le (show ys.length ≤ k by omega)]; rfl

theorem ints_any (v1 v2 : Value) (xs ys : List Int) (ok : Nat → Prop) (w : World) (h1 : Sl (Kd.int .i64) w ok v1 xs) (h2 : Sl (Kd.int .i64) w ok v2 ys) :
    Calls Tryz.prog 43 #[v1, v2] w fun e w' => e = .returned (.bool (decide (xs = ys))) ∧ ∃ n, w' = w.drewN n := by
  have hx : Hid (decide (xs = ys) = (cmpL xs ys == 0)) := Lib.hid (by rw [decide_eq_decide.2 (cmpL_zero xs ys).symm]; rfl)
  go_enter Tryz.func43, Tryz.ntmps43
  go_wp2_with (go_at_call 66; refine (refcmp_any _ _ _ _ _ _ h1 h2).mono ?_; rintro e w' ⟨rfl, n, rfl⟩)
  go_ret
  exact ⟨ret_bool hx.out.symm, _, rfl⟩

theorem drop_same (xs ys : List (List Int)) (k : Nat) (h : k < xs.length) (h' : k < ys.length) : decide (xs.drop k = ys.drop k) = (decide (nth [] xs k = nth [] ys k) && decide (xs.drop (k + 1) = ys.drop (k + 1))) := by
  rw [drop_cons xs [] k h, drop_cons ys [] k h']
  simp
def TupRel (w : World) (xs ys : List (List Int)) (g : Nat) (v : Value) (wr : World) : Prop :=
  ∃ k : Nat, v = .int .i64 k ∧ k ≤ xs.length ∧ Hid (decide (xs = ys) = decide (xs.drop k = ys.drop k)) ∧ ∃ n, wr = w.drewN n ∧ g = xs.length - k
set_option maxRecDepth 100000 in
theorem tuples_any (v1 v2 : Value) (xs ys : List (List Int)) (ok : Nat → Prop) (w : World) (h1 : Sl kRow w ok v1 xs) (h2 : Sl kRow w ok v2 ys) :
    Calls Tryz.prog 42 #[v1, v2] w fun e w' => e = .returned (.bool (decide (xs = ys))) ∧ ∃ n, w' = w.drewN n := by
  have H1 := Lib.hid h1
  have H2 := Lib.hid h2
  obtain ⟨A, c, rfl, hc, hm, _⟩ := h1
  obtain ⟨A', c', rfl, hc', hm', _⟩ := h2
  go_enter Tryz.func42, Tryz.ntmps42
  by_cases hl : xs.length = ys.length
  · have hb : ((xs.length : Int) != ys.length) = false := by simp [hl]
    have HL := Lib.hid hl
    go_wp2
    clear hl hb
    go_loopg [5] xs.length (fun g v wr => TupRel w xs ys g v wr)
    case atStart => exact ⟨0, rfl, by omega, Lib.hid rfl, 0, rfl, by omega⟩
    case round =>
      obtain ⟨k, rfl, hk, H, nd, rfl, hg⟩ := hrel
      have HG := Lib.hid hg
      clear hg
      by_cases hlt : k < xs.length
      · obtain ⟨b, o, v, rfl, hcell, hv⟩ := H1.out.elems.row (j := k) hlt
        obtain ⟨b', o', v', rfl, hcell', hv'⟩ := H2.out.elems.row (j := k) (by have := HL.out; omega)
        have hlt' : k < ys.length := by have := HL.out; omega
        have hr := Lib.hid (fun n => (ints_any v v' _ _ ok ((w.drewN nd).drewN n) hv hv'))
        have H' := Lib.hid (drop_same xs ys k hlt hlt')
        clear H1 H2 hv hv'
        go_wp2_with fail
        refine wp_region_lex (fun w' => w'.cell? ⟨b, o + k, none⟩ = some v ∧ w'.cell? ⟨b', o' + k, none⟩ = some v') [true, true, true, true, true, true, true, true, false, false] (by kernel_rfl) (by kernel_rfl) (fun c a d v w h => by cases d <;> exact h) ?_
        change wpLex _ _ _ _ _ _ _ _ _ (World.drew (w.drewN nd))
        have e1 : (World.drew (w.drewN nd)).cell? ⟨b, o + k, none⟩ = some v := hcell
        have e2 : (World.drew (w.drewN nd)).cell? ⟨b', o' + k, none⟩ = some v' := hcell'
        repeat (first | (refine lex_take ⟨e1, e2⟩ rfl (fun w' hw' => by (obtain ⟨x1, x2⟩ := hw'; (try go_simp); try rfl)) (fun K hK => ?_); go_simp; refine hK _ _ ?_; clear hK K) | (refine lex_take_on _ _ _ _ ⟨e1, e2⟩ rfl rfl rfl rfl (fun w' hw' => by (obtain ⟨x1, x2⟩ := hw'; (try go_simp); try rfl)) (fun K hK => ?_); go_simp; refine hK _ _ ?_; clear hK K) | (refine lex_take_off _ _ _ _ _ ⟨e1, e2⟩ rfl rfl rfl rfl rfl (fun K hK => ?_); go_simp; refine hK _ _ ?_; clear hK K))
        cases hb : decide (nth [] xs k = nth [] ys k)
        · rw [hb] at hr H'
          have HR := Lib.hid (hr.out 1)
          clear hr
          refine lex_step rfl (fun K hK => ?_)
          go_wp2_with (go_at_call 43; refine HR.out.mono ?_; rintro e w' ⟨rfl, n2, rfl⟩)
          refine hK _ _ ⟨e1, e2⟩ ?_
          clear hK K
          refine lex_list _ _ _ _ _ rfl (by kernel_rfl) ?_
          go_wp2
          go_ret
          exact ⟨ret_bool (by rw [H.out, H'.out]; rfl), _, rfl⟩
        · rw [hb] at hr H'
          have HR := Lib.hid (hr.out 1)
          clear hr
          refine lex_step rfl (fun K hK => ?_)
          go_wp2_with (go_at_call 43; refine HR.out.mono ?_; rintro e w' ⟨rfl, n2, rfl⟩)
          refine hK _ _ ⟨e1, e2⟩ ?_
          clear hK K
          refine lex_list _ _ _ _ _ rfl (by kernel_rfl) ?_
          go_wp2
          go_roundg (xs.length - (k + 1))
          case rel => exact ⟨k + 1, by go_num, by omega, Lib.hid (by rw [H.out, H'.out]; simp), _, rfl, rfl⟩
          case measure => have := HG.out; omega
      · go_wp2
        go_ret
        refine ⟨ret_bool ?_, _, rfl⟩
        have := HL.out
        rw [H.out, List.drop_eq_nil_of_le (by omega), List.drop_eq_nil_of_le (by omega)]; rfl
  · have hb : ((xs.length : Int) != ys.length) = true := by simp; omega
    go_wp2
    go_ret
    exact ⟨ret_bool (by simp; intro e; rw [e] at hl; omega), 0, rfl⟩
end Go.Proofs.YtoahaigfjfeopaaGreatDoor
