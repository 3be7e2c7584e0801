/- arboristlaw06.InstEmpty. -/
import Derived.Test.YtoahaigfjfeopaaGreatDoorWal
import Derived.Test.YtoahaigfjfeopaaGreatDoorPh
namespace Go.Proofs.YtoahaigfjfeopaaGreatDoor
open Go.RowKit
attribute [local irreducible] wpStill wpLex Calls

def EmpRel (xs : List Int) (g : Nat) (v s : Value) (wr : World) (w : World) : Prop :=
  ∃ k : Nat, ∃ sb : ByteArray, v = .int .i64 k ∧ k ≤ xs.length ∧ k ≤ 60 ∧ s = .string sb ∧ Hid (sb = ⟨(blankP (xs.take k)).toArray⟩) ∧ sb.size ≤ 8 * k ∧ wr = w ∧ g = 60 - k
theorem ba_app (a b : List UInt8) : (⟨a.toArray⟩ : ByteArray) ++ ⟨b.toArray⟩ = ⟨(a ++ b).toArray⟩ := by
  apply ByteArray.ext
  simp [ByteArray.data_append]
theorem blank_next (xs : List Int) (k : Nat) (h : k < xs.length) (sb : ByteArray) (hs : sb = ⟨(blankP (xs.take k)).toArray⟩) (t : List UInt8) (ht : blank1 (nth 0 xs k) = t) : sb ++ ⟨t.toArray⟩ = ⟨(blankP (xs.take (k + 1))).toArray⟩ := by
  rw [hs, ba_app, take_next xs k h, blankP_snoc, ht]
theorem right_empty : rightB ⟨[], [], []⟩ = true := by kernel_rfl
theorem print_empty : printP ⟨[], [], []⟩ = [] := by kernel_rfl
theorem zero_const (w : World) : (Instr.build 26 #[]).run Tryz.prog w = .ok (.agg #[.slice none 0 0, .slice none 0 0, .slice none 0 0]) w := by kernel_rfl
set_option maxRecDepth 100000 in
set_option maxHeartbeats 4000000 in
theorem empty_any (v : Value) (xs : List Int) (ok : Nat → Prop) (w : World) (hE : Env w) (h1 : Sl (Kd.int .u8) w ok v xs) (hb : ∀ k, k < xs.length → 0 ≤ nth 0 xs k ∧ nth 0 xs k ≤ 255) :
    Calls Tryz.prog 10 #[v] w fun e w' => e = .returned (.bool true) ∧ Below w.heap.size w w' := by
  have HS := Lib.hid (shown_any w hE)
  have H1 := Lib.hid h1
  have HE := Lib.hid hE
  have HB := Lib.hid hb
  obtain ⟨A, c, rfl, hc, hm, _⟩ := h1
  clear hE hb
  go_enter Tryz.func10, Tryz.ntmps10
  go_wp2_with (go_at_call 11; refine HS.out.mono ?_; rintro e w1 ⟨rfl, hb⟩; (have HB1 := Lib.hid hb); (have H2 := Lib.hid (H1.out.below (by decide) hb)); (have HE2 := Lib.hid (HE.out.below hb HE.out.size)); clear hb HS H1)
  go_loopg [5, 4] 60 (fun g v s wr => EmpRel xs g v s wr w1)
  case atStart => exact ⟨0, _, rfl, by omega, by omega, rfl, Lib.hid rfl, Nat.le_refl _, rfl, rfl⟩
  case round =>
    obtain ⟨k, sb, rfl, hk, hk6, rfl, hs, hsz, rfl, hg⟩ := hrel
    have HG := Lib.hid hg
    clear hg
    by_cases hlt : k < xs.length
    · by_cases hlt6 : k < 60
      · obtain ⟨b, o, rfl, hcell⟩ := H2.out.elems.num hlt
        have hn := HB.out k hlt
        have HNX := Lib.hid (blank_next xs k hlt sb hs.out)
        unfold blank1 at HNX
        generalize nth 0 xs k = n at *
        by_cases e0 : n % 4 = 0
        · have b0 : (n % 4 == 0) = true := by simp [e0]
          have HQ := Lib.hid (HNX.out _ (if_pos e0))
          clear e0
          go_wp2
          go_roundg (60 - (k + 1))
          case rel => exact ⟨k + 1, _, by go_num, by omega, by omega, rfl, HQ, by have : (ByteArray.mk #[32]).size = 1 := rfl; rw [ByteArray.size_append]; omega, rfl, rfl⟩
          case measure => have := HG.out; omega
        · have b0 : (n % 4 == 0) = false := by simp [e0]
          by_cases e1 : n % 4 = 1
          · have b1 : (n % 4 == 1) = true := by simp [e1]
            have HQ := Lib.hid (HNX.out _ ((if_neg e0).trans (if_pos e1)))
            clear e0 e1
            go_wp2
            go_roundg (60 - (k + 1))
            case rel => exact ⟨k + 1, _, by go_num, by omega, by omega, rfl, HQ, by have : (ByteArray.mk #[10]).size = 1 := rfl; rw [ByteArray.size_append]; omega, rfl, rfl⟩
            case measure => have := HG.out; omega
          · have b1 : (n % 4 == 1) = false := by simp [e1]
            by_cases e2 : n % 4 = 2
            · have b2 : (n % 4 == 2) = true := by simp [e2]
              have HQ := Lib.hid (HNX.out _ ((if_neg e0).trans ((if_neg e1).trans (if_pos e2))))
              clear e0 e1 e2
              go_wp2
              go_roundg (60 - (k + 1))
              case rel => exact ⟨k + 1, _, by go_num, by omega, by omega, rfl, HQ, by have : (ByteArray.mk #[9]).size = 1 := rfl; rw [ByteArray.size_append]; omega, rfl, rfl⟩
              case measure => have := HG.out; omega
            · have b2 : (n % 4 == 2) = false := by simp [e2]
              have b3 : (n % 4 == 3) = true := by
                simp; omega
              have HQ := Lib.hid (HNX.out _ ((if_neg e0).trans ((if_neg e1).trans (if_neg e2))))
              clear e0 e1 e2
              go_wp2
              go_roundg (60 - (k + 1))
              case rel => exact ⟨k + 1, _, by go_num, by omega, by omega, rfl, HQ, by have : (ByteArray.mk #[35, 118, 97, 114, 32, 48, 59, 10]).size = 8 := rfl; rw [ByteArray.size_append]; omega, rfl, rfl⟩
              case measure => have := HG.out; omega
      · have HK : Hid ((xs.take k).length ≤ 60) := Lib.hid (by rw [List.length_take]; omega)
        have hq := reads_ok _ _ wr HE2.out (by have := blankP_len (xs.take k); have := HK.out; omega) (parse_blank _ HK.out)
        rw [← hs.out] at hq
        have HPQ := Lib.hid hq
        clear hq hs
        go_wp2_with (go_at_call 18; refine HPQ.out.mono ?_; rintro e w2 ⟨⟨DA, Dc, HA, Hc, SA, Sc, rfl, hi, _⟩, hb⟩; (have HI := Lib.hid hi); (have HB2 := Lib.hid (below_next HB1.out hb)); clear hi hb HPQ)
        have hbe := Below.refl w2.heap.size w2 |>.alloc (Nat.le_refl _) (.cells #[.slice DA 0 Dc, .slice HA 0 Hc, .slice SA 0 Sc] 26)
        have HX := Lib.hid (heap_alloc_new w2 (.cells #[.slice DA 0 Dc, .slice HA 0 Hc, .slice SA 0 Sc] 26))
        have HI2 := Lib.hid (HI.out.below hbe)
        have HB3 := Lib.hid (below_next HB2.out hbe)
        clear HI HB2 hbe
        generalize w2.alloc (.cells #[.slice DA 0 Dc, .slice HA 0 Hc, .slice SA 0 Sc] 26) = W at *
        refine (same_any _ _ _ _ _ _ _ _ Any W HI2.out (InsAt.nil W Any)).mono ?_
        rintro e w3 ⟨rfl, hb⟩
        have HI3 := Lib.hid (HI2.out.below hb)
        have HB4 := Lib.hid (below_next HB3.out hb)
        have HX3 := Lib.hid (block_kept hb HX.out)
        have hr := right_any _ _ _ _ _ w3 HI3.out.1 HI3.out.2.1 HI3.out.2.2
        rw [right_empty] at hr
        have HR := Lib.hid hr
        have x0 := cell_at HX3.out (i := 0) rfl
        have x1 := cell_at HX3.out (i := 1) rfl
        have x2 := cell_at HX3.out (i := 2) rfl
        clear hb hr HB3 HI2 HX
        go_wp2_with (first
          | (go_at_call 14; refine HR.out.mono ?_; rintro e w5 ⟨rfl, hb⟩; (have HX5 := Lib.hid (block_kept hb HX3.out)); (have HI5 := Lib.hid (HI3.out.below hb)); (have HB5 := Lib.hid (below_next HB4.out hb)); (have x0 := cell_at HX5.out (i := 0) rfl); (have x1 := cell_at HX5.out (i := 1) rfl); (have x2 := cell_at HX5.out (i := 2) rfl); (have HPR := Lib.hid (print_any _ _ _ _ _ w5 (HE.out.below HB5.out HE.out.size) HI5.out.1 HI5.out.2.1 HI5.out.2.2 (by rw [print_empty]; decide))); clear hb HX3 HI3 HB4 HR)
          | (go_at_call 15; rw [print_empty] at HPR; refine HPR.out.mono ?_; rintro e w6 ⟨rfl, hb⟩; (have HB6 := Lib.hid (below_next HB5.out hb)); clear hb HPR))
        go_ret
        exact ⟨rfl, HB6.out⟩
    · have HK : Hid ((xs.take k).length ≤ 60) := Lib.hid (by rw [List.length_take]; omega)
      have hq := reads_ok _ _ wr HE2.out (by have := blankP_len (xs.take k); have := HK.out; omega) (parse_blank _ HK.out)
      rw [← hs.out] at hq
      have HPQ := Lib.hid hq
      clear hq hs
      go_wp2_with (go_at_call 18; refine HPQ.out.mono ?_; rintro e w2 ⟨⟨DA, Dc, HA, Hc, SA, Sc, rfl, hi, _⟩, hb⟩; (have HI := Lib.hid hi); (have HB2 := Lib.hid (below_next HB1.out hb)); clear hi hb HPQ)
      have hbe := Below.refl w2.heap.size w2 |>.alloc (Nat.le_refl _) (.cells #[.slice DA 0 Dc, .slice HA 0 Hc, .slice SA 0 Sc] 26)
      have HX := Lib.hid (heap_alloc_new w2 (.cells #[.slice DA 0 Dc, .slice HA 0 Hc, .slice SA 0 Sc] 26))
      have HI2 := Lib.hid (HI.out.below hbe)
      have HB3 := Lib.hid (below_next HB2.out hbe)
      clear HI HB2 hbe
      generalize w2.alloc (.cells #[.slice DA 0 Dc, .slice HA 0 Hc, .slice SA 0 Sc] 26) = W at *
      refine (same_any _ _ _ _ _ _ _ _ Any W HI2.out (InsAt.nil W Any)).mono ?_
      rintro e w3 ⟨rfl, hb⟩
      have HI3 := Lib.hid (HI2.out.below hb)
      have HB4 := Lib.hid (below_next HB3.out hb)
      have HX3 := Lib.hid (block_kept hb HX.out)
      have hr := right_any _ _ _ _ _ w3 HI3.out.1 HI3.out.2.1 HI3.out.2.2
      rw [right_empty] at hr
      have HR := Lib.hid hr
      have x0 := cell_at HX3.out (i := 0) rfl
      have x1 := cell_at HX3.out (i := 1) rfl
      have x2 := cell_at HX3.out (i := 2) rfl
      clear hb hr HB3 HI2 HX
      go_wp2_with (first
        | (go_at_call 14; refine HR.out.mono ?_; rintro e w5 ⟨rfl, hb⟩; (have HX5 := Lib.hid (block_kept hb HX3.out)); (have HI5 := Lib.hid (HI3.out.below hb)); (have HB5 := Lib.hid (below_next HB4.out hb)); (have x0 := cell_at HX5.out (i := 0) rfl); (have x1 := cell_at HX5.out (i := 1) rfl); (have x2 := cell_at HX5.out (i := 2) rfl); (have HPR := Lib.hid (print_any _ _ _ _ _ w5 (HE.out.below HB5.out HE.out.size) HI5.out.1 HI5.out.2.1 HI5.out.2.2 (by rw [print_empty]; decide))); clear hb HX3 HI3 HB4 HR)
        | (go_at_call 15; rw [print_empty] at HPR; refine HPR.out.mono ?_; rintro e w6 ⟨rfl, hb⟩; (have HB6 := Lib.hid (below_next HB5.out hb)); clear hb HPR))
      go_ret
      exact ⟨rfl, HB6.out⟩
end Go.Proofs.YtoahaigfjfeopaaGreatDoor
