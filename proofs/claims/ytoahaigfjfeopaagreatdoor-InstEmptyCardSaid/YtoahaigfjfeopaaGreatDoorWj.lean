/- What the printer's hard writes of a table, and of a sum. -/
import Derived.Test.YtoahaigfjfeopaaGreatDoorWi
namespace Go.Proofs.YtoahaigfjfeopaaGreatDoor
open Go.RowKit

set_option maxRecDepth 100000 in
set_option maxHeartbeats 1000000 in
theorem hard_table (b : Nat) (l : List UInt8) (vs vr va : Value) (c : Con) (ok : Nat → Prop) (w : World) (hB : Bld b l w) (hE : Env w) (hb8 : 8 ≤ b) (hS : Stays b w ok) (h1 : Sl (Kd.int .i64) w ok vs c.scope)
    (hq1 : 1 ≤ c.kind) (hq2 : c.kind ≤ 2) (h2 : Sl kRow w ok vr c.rows) (hf : Fits c.scope) (hr : ∀ k, k < c.rows.length → Fits (nth [] c.rows k)) (hrl : c.rows.length ≤ 140737488355328) (hlen : l.length + (hardP c).length ≤ 140737488355328) :
    Calls Tryz.prog 37 #[.pointer (some ⟨b, 0, none⟩), .agg #[.int .i64 c.kind, vs, vr, va]] w fun e w' => e = .returned (.tuple #[]) ∧ Bld b (l ++ hardP c) w' ∧ Kep b w w' := by
  have hP : hardP c = nth [] wordsT c.kind.toNat ++ (numsP c.scope ++ ([58] ++ rowsP 0 c.rows)) := by
    unfold hardP; rw [if_neg (by omega), if_neg (by omega)]
  have hbw : b < w.heap.size := by obtain ⟨_, _, _, h, _⟩ := hB; exact lt_of_block h
  have h1' := h1
  obtain ⟨As, cps, rfl, hs1, hs2, _⟩ := h1
  have h2' := h2
  obtain ⟨Ar, cpr, rfl, hr1, hr2, _⟩ := h2
  have HB0 := below_alloc1 w (.cells #[.int .i64 c.kind, .slice As c.scope.length cps, .slice Ar c.rows.length cpr, va] 43)
  have hbox0 : Box4 w.heap.size 43 (.int .i64 c.kind) (.slice As c.scope.length cps) (.slice Ar c.rows.length cpr) va (w.alloc (.cells #[.int .i64 c.kind, .slice As c.scope.length cps, .slice Ar c.rows.length cpr, va] 43)) := ⟨heap_alloc_new w _⟩
  have hword := (hE.below HB0 hE.size).word c.kind.toNat (by omega)
  have hk0 : 0 ≤ c.kind := by omega
  have hk7 : c.kind < 7 := by omega
  have hkne : (c.kind == 6) = false := by simp; omega
  have hl : l.length + (nth [] wordsT c.kind.toNat).length + (numsP c.scope).length + 1 + (rowsP 0 c.rows).length ≤ 140737488355328 := by rw [hP, List.length_append, List.length_append, List.length_append] at hlen; simp at hlen; omega
  have HP := Lib.hid hP
  have hdr := Below.drew (Below.refl (w.alloc (.cells #[.int .i64 c.kind, .slice As c.scope.length cps, .slice Ar c.rows.length cpr, va] 43)).heap.size (w.alloc (.cells #[.int .i64 c.kind, .slice As c.scope.length cps, .slice Ar c.rows.length cpr, va] 43)))
  have HW := Lib.hid (writeString_any b l ⟨(nth [] wordsT c.kind.toNat).toArray⟩ _ ((hB.move HB0).move hdr) (by rw [size_mk]; omega))
  have HS0 := Lib.hid (hS.below HB0)
  have H1 := Lib.hid (h1'.below (by decide) HB0)
  have H2 := Lib.hid (h2'.below (by decide) HB0)
  have Hr := Lib.hid hr
  have HE0 := Lib.hid (hE.below HB0 hE.size)
  have HK0 : Hid (Kep b w (w.alloc (.cells #[.int .i64 c.kind, .slice As c.scope.length cps, .slice Ar c.rows.length cpr, va] 43))) := Lib.hid ⟨(Below.refl b w).alloc (by omega) _, (Lib.OthersKept.refl _ _ w).alloc _⟩
  have Hf := Lib.hid hf
  have Hbox := Lib.hid hbox0
  have hne : w.heap.size ≠ b := by omega
  have Hne := Lib.hid hne
  clear hP hlen hB hS h1' h2' hr hE hf HB0 hdr hbox0 hne
  go_enter Tryz.func37, Tryz.ntmps37
  go_wp2
  go_region_with (first
    | (go_at_call 35; refine HW.out.mono ?_; rintro e W2 ⟨rfl, hB2, hk2⟩; (have HB2 := Lib.hid hB2); (have HK2 := Lib.hid (Kep.trans ⟨Below.drew (Below.refl b _), (Lib.OthersKept.refl _ _ _).drew⟩ hk2)); (obtain ⟨c0, c1, c2, c3⟩ := (Hbox.out.kep Hne.out (by decide) HK2.out).cells); clear hB2 hk2))
  go_wp2_with (first
    | (go_at_call 36; refine (numbers_any b _ _ c.scope ok _ HB2.out (HE0.out.below HK2.out.below hb8) hb8 (HS0.out.sl (by decide) H1.out HK2.out) (HS0.out.kep HK2.out) Hf.out (by rw [List.length_append]; omega)).mono ?_; rintro e W3 ⟨rfl, hB3, hk3⟩; (have HB3 := Lib.hid hB3); (have HK3 := Lib.hid (HK2.out.trans hk3)); (obtain ⟨d0, d1, d2, d3⟩ := (Hbox.out.kep Hne.out (by decide) HK3.out).cells); clear hB3 hk3)
    | (go_at_call 65; refine (writeByte_any b _ 58 _ HB3.out (by rw [List.length_append, List.length_append]; omega)).mono ?_; rintro e W4 ⟨rfl, hB4, hk4⟩; (have HB4 := Lib.hid hB4); (have HK4 := Lib.hid (HK3.out.trans hk4)); (obtain ⟨e0, e1, e2, e3⟩ := (Hbox.out.kep Hne.out (by decide) HK4.out).cells); clear hB4 hk4))
  clear HW c0 c1 c2 c3 d0 d1 d2 d3
  go_loopw [79] (fun i wr => ∃ k : Nat, i = .int .i64 k ∧ k ≤ c.rows.length ∧ Hid (Bld b (l ++ (nth [] wordsT c.kind.toNat) ++ numsP c.scope ++ [58] ++ rowsP 0 (c.rows.take k)) wr) ∧ Hid (Kep b (w.alloc (.cells #[.int .i64 c.kind, .slice As c.scope.length cps, .slice Ar c.rows.length cpr, va] 43)) wr)) (fun i _ => c.rows.length - (intOf i).toNat)
  case atStart => exact ⟨0, rfl, by omega, Lib.hid (by simpa [rowsP] using HB4.out), HK4⟩
  case round =>
    obtain ⟨k, rfl, hk, HBk, HKk⟩ := hrel
    clear HB2 HB3 HB4 HK2 HK3 HK4 e0 e1 e2 e3
    by_cases hlt : k < c.rows.length
    · obtain ⟨b1, o1, vt, rfl, g1, ht⟩ := (Sl.elems (HS0.out.sl (by decide) H2.out HKk.out)).row hlt
      have HT := Lib.hid ht
      obtain ⟨At, ct, rfl, ht1, ht2, _⟩ := ht
      have hst := rowsP_step c.rows k hlt
      have hle := rowsP_take_le c.rows (k + 1)
      have hb2 : (rowsP 0 (c.rows.take k)).length + (commaP k).length + (numsP (nth [] c.rows k)).length ≤ (rowsP 0 c.rows).length := by
        rw [hst, List.length_append, List.length_append] at hle; omega
      have Hst := Lib.hid hst
      clear hst hle
      go_wp2_with (first
        | (go_at_call 64; refine (comma_any b _ k _ HBk.out (by omega) (by simp only [List.length_append, List.length_cons, List.length_nil]; omega)).mono ?_; rintro e W5 ⟨rfl, hB5, hk5⟩; (have HB5 := Lib.hid hB5); (have HK5 := Lib.hid (HKk.out.trans hk5)); (have HKt := Lib.hid hk5); clear hB5 hk5)
        | (go_at_call 36; refine (numbers_any b _ _ (nth [] c.rows k) ok _ HB5.out (HE0.out.below HK5.out.below hb8) hb8 ((HS0.out.kep HKk.out).sl (by decide) HT.out HKt.out) (HS0.out.kep HK5.out) (Hr.out k hlt) (by simp only [List.length_append, List.length_cons, List.length_nil]; omega)).mono ?_; rintro e W6 ⟨rfl, hB6, hk6⟩; (have HB6 := Lib.hid hB6); (have HK6 := Lib.hid (HK5.out.trans hk6)); clear hB6 hk6))
      go_roundw
      case rel => exact ⟨k + 1, by go_num, by omega, Lib.hid (by rw [Hst.out]; simpa only [List.append_assoc] using HB6.out), HK6⟩
      case measure => simp [intOf]; omega
    · go_wp2
      go_end0
      have e : c.rows.take k = c.rows := List.take_of_length_le (by omega)
      rw [e] at HBk
      exact ⟨rfl, by rw [HP.out]; simpa only [List.append_assoc] using HBk.out, HK0.out.trans HKk.out⟩

end Go.Proofs.YtoahaigfjfeopaaGreatDoor
