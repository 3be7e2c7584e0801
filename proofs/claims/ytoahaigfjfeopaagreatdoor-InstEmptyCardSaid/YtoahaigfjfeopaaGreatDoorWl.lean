/- What the printer's soft writes. -/
import Derived.Test.YtoahaigfjfeopaaGreatDoorWk
namespace Go.Proofs.YtoahaigfjfeopaaGreatDoor
open Go.RowKit

set_option maxRecDepth 100000 in
set_option maxHeartbeats 1000000 in
theorem softw_any (b : Nat) (l : List UInt8) (vs vr vc : Value) (s : Sft) (ok : Nat → Prop) (w : World) (hB : Bld b l w) (hE : Env w) (hb8 : 8 ≤ b) (hS : Stays b w ok) (h1 : Sl (Kd.int .i64) w ok vs s.scope) (h2 : Sl kRow w ok vr s.rows) (h3 : Sl (Kd.int .i64) w ok vc s.costs)
    (hlc : s.rows.length = s.costs.length) (hf : Fits s.scope) (hr : ∀ k, k < s.rows.length → Fits (nth [] s.rows k)) (hcf : Fits s.costs) (hd : Fit s.dflt) (hlen : l.length + (softP s).length ≤ 140737488355328) :
    Calls Tryz.prog 38 #[.pointer (some ⟨b, 0, none⟩), .agg #[vs, vr, vc, .int .i64 s.dflt]] w fun e w' => e = .returned (.tuple #[]) ∧ Bld b (l ++ softP s) w' ∧ Kep b w w' := by
  have hP : softP s = softT ++ (numsP s.scope ++ ([58] ++ (numsP [s.dflt] ++ costsP s.rows s.costs))) := by unfold softP; simp only [List.append_assoc]
  have hbw : b < w.heap.size := hB.lt
  have h1' := h1
  obtain ⟨As, cps, rfl, hs1, hs2, _⟩ := h1
  have h2' := h2
  obtain ⟨Ar, cpr, rfl, hr1, hr2, _⟩ := h2
  have h3' := h3
  obtain ⟨Ac, cpc, rfl, hc1, hc2, _⟩ := h3
  have HB0 := below_alloc1 w (.cells #[.slice As s.scope.length cps, .slice Ar s.rows.length cpr, .slice Ac s.costs.length cpc, .int .i64 s.dflt] 47)
  have hbox0 : Box4 w.heap.size 47 (.slice As s.scope.length cps) (.slice Ar s.rows.length cpr) (.slice Ac s.costs.length cpc) (.int .i64 s.dflt) (w.alloc (.cells #[.slice As s.scope.length cps, .slice Ar s.rows.length cpr, .slice Ac s.costs.length cpc, .int .i64 s.dflt] 47)) := ⟨heap_alloc_new w _⟩
  have hl : l.length + 4 + (numsP s.scope).length + 1 + (numsP [s.dflt]).length + (costsP s.rows s.costs).length ≤ 140737488355328 := by
    rw [hP, List.length_append, List.length_append, List.length_append, List.length_append] at hlen
    simp only [softT, List.length_cons, List.length_nil] at hlen; omega
  have hsl : softT.length = 4 := rfl
  have HP := Lib.hid hP
  have HW := Lib.hid (writeString_any b l ⟨softT.toArray⟩ _ (hB.move HB0) (by rw [size_mk]; omega))
  have HS0 := Lib.hid (hS.below HB0)
  have H1 := Lib.hid (h1'.below (by decide) HB0)
  have H2 := Lib.hid (h2'.below (by decide) HB0)
  have H3 := Lib.hid (h3'.below (by decide) HB0)
  have HE0 := Lib.hid (hE.below HB0 hE.size)
  have HK0 := Lib.hid (kep_alloc (b := b) w (.cells #[.slice As s.scope.length cps, .slice Ar s.rows.length cpr, .slice Ac s.costs.length cpc, .int .i64 s.dflt] 47) (by omega))
  have Hf := Lib.hid hf
  have Hr := Lib.hid hr
  have Hcf := Lib.hid hcf
  have Hd := Lib.hid (fits_one hd)
  have Hlc := Lib.hid hlc
  have hlc1 : s.rows.length ≤ s.costs.length := by omega
  have Hsl := Lib.hid hsl
  have Hbox := Lib.hid hbox0
  have hne : w.heap.size ≠ b := by omega
  have Hne := Lib.hid hne
  clear hP hlen hB hS h1' h2' h3' hE hf hr hcf hd hlc hsl HB0 hbox0 hne
  go_enter Tryz.func38, Tryz.ntmps38
  go_wp2_with (first
    | (go_at_call 35; refine HW.out.mono ?_; rintro e W2 ⟨rfl, hB2, hk2⟩; (have HB2 := Lib.hid hB2); (have HK2 := Lib.hid hk2); (obtain ⟨c0, c1, c2, c3⟩ := (Hbox.out.kep Hne.out (by decide) HK2.out).cells); clear hB2 hk2))
  refine (numbers_any b _ _ s.scope ok _ HB2.out (HE0.out.below HK2.out.below hb8) hb8 (HS0.out.sl (by decide) H1.out HK2.out) (HS0.out.kep HK2.out) Hf.out (by simp only [List.length_append, List.length_cons, List.length_nil, Hsl.out]; omega)).mono ?_
  rintro e W3 ⟨rfl, hB3, hk3⟩
  have HB3 := Lib.hid hB3
  have HK3 := Lib.hid (HK2.out.trans hk3)
  obtain ⟨d0, d1, d2, d3⟩ := (Hbox.out.kep Hne.out (by decide) HK3.out).cells
  clear hB3 hk3 HB2 HK2 c0 c1 c2 c3 HW
  go_wp2_with fail
  refine (writeByte_any b _ 58 _ HB3.out (by simp only [List.length_append, List.length_cons, List.length_nil, Hsl.out]; omega)).mono ?_
  rintro e W4 ⟨rfl, hB4, hk4⟩
  have HB4 := Lib.hid hB4
  have HK4 := Lib.hid (HK3.out.trans hk4)
  have hlt4 := Lib.hid hB4.lt
  obtain ⟨c0, c1, c2, c3⟩ := (Hbox.out.kep Hne.out (by decide) HK4.out).cells
  clear hB4 hk4 HB3 HK3 d0 d1 d2 d3
  go_wp2_with fail
  refine (numbers_any b _ _ [s.dflt] (· = W4.heap.size) _ (HB4.out.move (below_alloc1 _ _)) ((HE0.out.below HK4.out.below hb8).below (below_alloc1 _ _) (HE0.out.below HK4.out.below hb8).size) hb8 (lit_one W4 _) (stays_lit W4 _ hlt4.out) Hd.out (by simp only [List.length_append, List.length_cons, List.length_nil, Hsl.out]; omega)).mono ?_
  rintro e W5 ⟨rfl, hB5, hk5⟩
  have HB5 := Lib.hid hB5
  have HK5 := Lib.hid (HK4.out.trans ((kep_alloc W4 _ (Nat.le_of_lt hlt4.out)).trans hk5))
  obtain ⟨d0, d1, d2, d3⟩ := (Hbox.out.kep Hne.out (by decide) HK5.out).cells
  clear hB5 hk5 HB4 HK4 c0 c1 c2 c3
  go_wp2
  clear d0 d1 d2 d3
  go_loopw [26] (fun i wr => ∃ k : Nat, i = .int .i64 k ∧ k ≤ s.rows.length ∧ Hid (Bld b (l ++ softT ++ numsP s.scope ++ [58] ++ numsP [s.dflt] ++ costsP (s.rows.take k) (s.costs.take k)) wr) ∧ Hid (Kep b (w.alloc (.cells #[.slice As s.scope.length cps, .slice Ar s.rows.length cpr, .slice Ac s.costs.length cpc, .int .i64 s.dflt] 47)) wr)) (fun i _ => s.rows.length - (intOf i).toNat)
  case atStart => exact ⟨0, rfl, by omega, Lib.hid (by simpa [costsP] using HB5.out), HK5⟩
  case round =>
    obtain ⟨k, rfl, hk, HBk, HKk⟩ := hrel
    clear HB5 HK5
    by_cases hlt : k < s.rows.length
    · obtain ⟨b1, o1, vt, rfl, g1, ht⟩ := (Sl.elems (HS0.out.sl (by decide) H2.out HKk.out)).row hlt
      have HT := Lib.hid ht
      obtain ⟨At, ct, rfl, ht1, ht2, _⟩ := ht
      have hst := costsP_step s.rows s.costs k hlt Hlc.out
      have hle := costsP_take_le s.rows s.costs (k + 1) Hlc.out
      have hb2 : (costsP (s.rows.take k) (s.costs.take k)).length + 1 + (numsP (nth [] s.rows k)).length + (numsP [nth 0 s.costs k]).length ≤ (costsP s.rows s.costs).length := by
        rw [hst, List.length_append, List.length_append, List.length_append] at hle; simp only [List.length_cons, List.length_nil] at hle; omega
      have Hst := Lib.hid hst
      have hft := Lib.hid (fits_one (Hcf.out k (by omega)))
      clear hst hle
      go_wp2_with fail
      refine (writeByte_any b _ 44 _ HBk.out (by simp only [List.length_append, List.length_cons, List.length_nil, Hsl.out]; omega)).mono ?_
      rintro e W6 ⟨rfl, hB6, hk6⟩
      have HB6 := Lib.hid hB6
      have HK6 := Lib.hid (HKk.out.trans hk6)
      have HKt := Lib.hid hk6
      clear hB6 hk6
      go_wp2_with fail
      refine (numbers_any b _ _ (nth [] s.rows k) ok _ HB6.out (HE0.out.below HK6.out.below hb8) hb8 ((HS0.out.kep HKk.out).sl (by decide) HT.out HKt.out) (HS0.out.kep HK6.out) (Hr.out k hlt) (by simp only [List.length_append, List.length_cons, List.length_nil, Hsl.out]; omega)).mono ?_
      rintro e W7 ⟨rfl, hB7, hk7⟩
      have HB7 := Lib.hid hB7
      have HK7 := Lib.hid (HK6.out.trans hk7)
      have hlt7 := Lib.hid hB7.lt
      obtain ⟨d0, d1, d2, d3⟩ := (Hbox.out.kep Hne.out (by decide) HK7.out).cells
      obtain ⟨b8, o8, he8, g8⟩ := (Sl.elems (HS0.out.sl (by decide) H3.out HK7.out)).num (j := k) (by omega)
      subst he8
      clear hB7 hk7 HB6 HK6 HT HKt
      go_wp2_with fail
      refine (numbers_any b _ _ [nth 0 s.costs k] (· = W7.heap.size) _ (HB7.out.move (below_alloc1 _ _)) ((HE0.out.below HK7.out.below hb8).below (below_alloc1 _ _) (HE0.out.below HK7.out.below hb8).size) hb8 (lit_one W7 _) (stays_lit W7 _ hlt7.out) hft.out (by simp only [List.length_append, List.length_cons, List.length_nil, Hsl.out]; omega)).mono ?_
      rintro e W8 ⟨rfl, hB8, hk8⟩
      have HB8 := Lib.hid hB8
      have HK8 := Lib.hid (HK7.out.trans ((kep_alloc W7 _ (Nat.le_of_lt hlt7.out)).trans hk8))
      clear hB8 hk8 d0 d1 d2 d3 g8
      go_wp2
      go_roundw
      case rel => exact ⟨k + 1, by go_num, by omega, Lib.hid (by rw [Hst.out]; simpa only [List.append_assoc] using HB8.out), HK8⟩
      case measure => simp [intOf]; omega
    · go_wp2
      go_end0
      have e : s.rows.take k = s.rows := List.take_of_length_le (by omega)
      have e' : s.costs.take k = s.costs := List.take_of_length_le (by have := Hlc.out; omega)
      rw [e, e'] at HBk
      exact ⟨rfl, by rw [HP.out]; simpa only [List.append_assoc] using HBk.out, HK0.out.trans HKk.out⟩
end Go.Proofs.YtoahaigfjfeopaaGreatDoor
