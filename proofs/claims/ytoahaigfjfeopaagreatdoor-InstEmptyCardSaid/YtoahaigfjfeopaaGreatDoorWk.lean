/- What the printer's hard writes of a sum. -/
import Derived.Test.YtoahaigfjfeopaaGreatDoorWj
namespace Go.Proofs.YtoahaigfjfeopaaGreatDoor
open Go.RowKit

theorem lit_two (W : World) (a v : Int) : Sl (Kd.int .i64) (W.alloc (.cells #[.int .i64 a, .int .i64 v] 3)) (· = W.heap.size) (.slice (some ⟨W.heap.size, 0, none⟩) 2 2) [a, v] := by
  refine ⟨_, _, rfl, Nat.le_refl _, by simp, fun j x hx => ⟨W.heap.size, 0, [.int .i64 x], rfl, rfl, rfl, fun i u hu => ?_⟩⟩
  have hc : (W.alloc (.cells #[.int .i64 a, .int .i64 v] 3)).heap[W.heap.size]? = some (.cells #[.int .i64 a, .int .i64 v] 3 (0, 0)) := heap_alloc_new W _
  match i, hu with
  | 0, hu =>
    simp at hu; subst hu
    match j, hx with
    | 0, hx => simp at hx; subst hx; exact cell_at hc (i := 0) rfl
    | 1, hx => simp at hx; subst hx; exact cell_at hc (i := 1) rfl
theorem lit_one (W : World) (a : Int) : Sl (Kd.int .i64) (W.alloc (.cells #[.int .i64 a] 3)) (· = W.heap.size) (.slice (some ⟨W.heap.size, 0, none⟩) 1 1) [a] := by
  refine ⟨_, _, rfl, Nat.le_refl _, by simp, fun j x hx => ⟨W.heap.size, 0, [.int .i64 x], rfl, rfl, rfl, fun i u hu => ?_⟩⟩
  have hc : (W.alloc (.cells #[.int .i64 a] 3)).heap[W.heap.size]? = some (.cells #[.int .i64 a] 3 (0, 0)) := heap_alloc_new W _
  match i, hu with
  | 0, hu =>
    simp at hu; subst hu
    match j, hx with
    | 0, hx => simp at hx; subst hx; exact cell_at hc (i := 0) rfl
theorem stays_lit {b : Nat} (W : World) (cs : Array Value) (hb : b < W.heap.size) : Stays b (W.alloc (.cells cs 3)) (· = W.heap.size) := by
  rintro k rfl
  exact .inr ⟨cs, 3, (0, 0), heap_alloc_new W _, by decide, by omega⟩
theorem kep_alloc {b : Nat} (W : World) (o : Obj) (hb : b ≤ W.heap.size) : Kep b W (W.alloc o) := ⟨(Below.refl b W).alloc hb o, (Lib.OthersKept.refl _ _ W).alloc o⟩
theorem Bld.lt {b : Nat} {l : List UInt8} {w : World} (h : Bld b l w) : b < w.heap.size := by obtain ⟨_, _, _, h, _⟩ := h; exact lt_of_block h

set_option maxRecDepth 100000 in
set_option maxHeartbeats 1000000 in
theorem hard_linear (b : Nat) (l : List UInt8) (vs vr va : Value) (c : Con) (ok : Nat → Prop) (w : World) (hB : Bld b l w) (hE : Env w) (hb8 : 8 ≤ b) (hS : Stays b w ok) (h1 : Sl (Kd.int .i64) w ok vs c.scope)
    (hq : c.kind = 6) (h3 : Sl (Kd.int .i64) w ok va c.args) (hla : c.args.length = c.scope.length + 2) (hh0 : 0 ≤ nth 0 c.args c.scope.length) (hh2 : nth 0 c.args c.scope.length ≤ 2) (hf : Fits c.scope) (hr : Fits c.args) (hlen : l.length + (hardP c).length ≤ 140737488355328) :
    Calls Tryz.prog 37 #[.pointer (some ⟨b, 0, none⟩), .agg #[.int .i64 c.kind, vs, vr, va]] w fun e w' => e = .returned (.tuple #[]) ∧ Bld b (l ++ hardP c) w' ∧ Kep b w w' := by
  have hP : hardP c = nth [] wordsT 6 ++ (linP 0 c.args c.scope ++ ([58, 32] ++ nth [] howsT (nth 0 c.args c.scope.length).toNat) ++ numsP [nth 0 c.args (c.scope.length + 1)]) := by
    unfold hardP; rw [if_pos hq, hq]; rfl
  have hbw : b < w.heap.size := by obtain ⟨_, _, _, h, _⟩ := hB; exact lt_of_block h
  have h1' := h1
  obtain ⟨As, cps, rfl, hs1, hs2, _⟩ := h1
  have h3' := h3
  obtain ⟨Aa, cpa, rfl, ha1, ha2, _⟩ := h3
  rw [hq]
  have HB0 := below_alloc1 w (.cells #[.int .i64 6, .slice As c.scope.length cps, vr, .slice Aa c.args.length cpa] 43)
  have hbox0 : Box4 w.heap.size 43 (.int .i64 6) (.slice As c.scope.length cps) vr (.slice Aa c.args.length cpa) (w.alloc (.cells #[.int .i64 6, .slice As c.scope.length cps, vr, .slice Aa c.args.length cpa] 43)) := ⟨heap_alloc_new w _⟩
  have hword := (hE.below HB0 hE.size).word 6 (by omega)
  have hl : l.length + (nth [] wordsT 6).length + (linP 0 c.args c.scope).length + 2 + (nth [] howsT (nth 0 c.args c.scope.length).toNat).length + (numsP [nth 0 c.args (c.scope.length + 1)]).length ≤ 140737488355328 := by rw [hP, List.length_append, List.length_append, List.length_append, List.length_append] at hlen; simp only [List.length_cons, List.length_nil] at hlen; omega
  have HP := Lib.hid hP
  have hdr := Below.drew (Below.refl (w.alloc (.cells #[.int .i64 6, .slice As c.scope.length cps, vr, .slice Aa c.args.length cpa] 43)).heap.size (w.alloc (.cells #[.int .i64 6, .slice As c.scope.length cps, vr, .slice Aa c.args.length cpa] 43)))
  have HW := Lib.hid (writeString_any b l ⟨(nth [] wordsT 6).toArray⟩ _ ((hB.move HB0).move hdr) (by rw [size_mk]; omega))
  have HS0 := Lib.hid (hS.below HB0)
  have H1 := Lib.hid (h1'.below (by decide) HB0)
  have H3 := Lib.hid (h3'.below (by decide) HB0)
  have Hr := Lib.hid hr
  have hla1 : c.scope.length + 1 < c.args.length := by omega
  have HE0 := Lib.hid (hE.below HB0 hE.size)
  have HK0 : Hid (Kep b w (w.alloc (.cells #[.int .i64 6, .slice As c.scope.length cps, vr, .slice Aa c.args.length cpa] 43))) := Lib.hid ⟨(Below.refl b w).alloc (by omega) _, (Lib.OthersKept.refl _ _ w).alloc _⟩
  have Hf := Lib.hid hf
  have Hbox := Lib.hid hbox0
  have hne : w.heap.size ≠ b := by omega
  have Hne := Lib.hid hne
  clear hP hlen hB hS h1' h3' hr hla hq hE hf HB0 hdr hbox0 hne
  go_enter Tryz.func37, Tryz.ntmps37
  go_wp2
  go_region_with (first
    | (go_at_call 35; refine HW.out.mono ?_; rintro e W2 ⟨rfl, hB2, hk2⟩; (have HB2 := Lib.hid hB2); (have HK2 := Lib.hid (Kep.trans ⟨Below.drew (Below.refl b _), (Lib.OthersKept.refl _ _ _).drew⟩ hk2)); (obtain ⟨c0, c1, c2, c3⟩ := (Hbox.out.kep Hne.out (by decide) HK2.out).cells); clear hB2 hk2))
  go_wp2
  clear HW c0 c1 c2 c3
  go_loopw [26] (fun i wr => ∃ k : Nat, i = .int .i64 k ∧ k ≤ c.scope.length ∧ Hid (Bld b (l ++ nth [] wordsT 6 ++ linP 0 (c.args.take k) (c.scope.take k)) wr) ∧ Hid (Kep b (w.alloc (.cells #[.int .i64 6, .slice As c.scope.length cps, vr, .slice Aa c.args.length cpa] 43)) wr)) (fun i _ => c.scope.length - (intOf i).toNat)
  case atStart => exact ⟨0, rfl, by omega, Lib.hid (by simpa [linP] using HB2.out), HK2⟩
  case round =>
    obtain ⟨k, rfl, hk, HBk, HKk⟩ := hrel
    clear HB2 HK2
    obtain ⟨e0, e1, e2, e3⟩ := (Hbox.out.kep Hne.out (by decide) HKk.out).cells
    have hwr := Lib.hid HBk.out.lt
    by_cases hlt : k < c.scope.length
    · obtain ⟨b1, o1, rfl, g1⟩ := (Sl.elems (HS0.out.sl (by decide) H1.out HKk.out)).num hlt
      have hst := linP_step c.args c.scope k hlt (by omega)
      have hle := linP_take_le c.args c.scope (k + 1) (by omega) (by omega)
      have hb2 : (linP 0 (c.args.take k) (c.scope.take k)).length + (commaP k).length + (numsP [nth 0 c.args k, nth 0 c.scope k]).length ≤ (linP 0 c.args c.scope).length := by
        rw [hst, List.length_append, List.length_append] at hle; omega
      have Hst := Lib.hid hst
      have hft := Lib.hid (fits_two (Hr.out k (by omega)) (Hf.out k hlt))
      clear hst hle
      go_wp2_with (first
        | (go_at_call 64; refine (comma_any b _ k _ HBk.out (by omega) (by simp only [List.length_append, List.length_cons, List.length_nil]; omega)).mono ?_; rintro e W5 ⟨rfl, hB5, hk5⟩; (have HB5 := Lib.hid hB5); (have HK5 := Lib.hid (HKk.out.trans hk5)); (have hlt5 := Lib.hid hB5.lt); (obtain ⟨f0, f1, f2, f3⟩ := (Hbox.out.kep Hne.out (by decide) HK5.out).cells); (obtain ⟨b5, o5, he5, g5⟩ := (Sl.elems (HS0.out.sl (by decide) H3.out HK5.out)).num (j := k) (by omega)); subst he5; clear hB5 hk5 e0 e1 e2 e3)
        | (go_at_call 36; refine (numbers_any b _ _ [nth 0 c.args k, nth 0 c.scope k] (· = W5.heap.size) _ (HB5.out.move (below_alloc1 _ _)) ((HE0.out.below HK5.out.below hb8).below (below_alloc1 _ _) (by have := (HE0.out.below HK5.out.below hb8).size; exact this)) hb8 (lit_two W5 _ _) (stays_lit W5 _ hlt5.out) hft.out (by simp only [List.length_append, List.length_cons, List.length_nil]; omega)).mono ?_; rintro e W6 ⟨rfl, hB6, hk6⟩; (have HB6 := Lib.hid hB6); (have HK6 := Lib.hid (HK5.out.trans ((kep_alloc W5 _ (Nat.le_of_lt hlt5.out)).trans hk6))); clear hB6 hk6))
      go_roundw
      case rel => exact ⟨k + 1, by go_num, by omega, Lib.hid (by rw [Hst.out]; simpa only [List.append_assoc] using HB6.out), HK6⟩
      case measure => simp [intOf]; omega
    · have ek : k = c.scope.length := by omega
      have e' : linP 0 (c.args.take k) (c.scope.take k) = linP 0 c.args c.scope := by rw [ek, List.take_length, linP_all]
      rw [e'] at HBk
      clear ek e'
      obtain ⟨ba, oa, hea, ga⟩ := (Sl.elems (HS0.out.sl (by decide) H3.out HKk.out)).num (j := c.scope.length) (by omega)
      subst hea
      have hE1 := HE0.out.below HKk.out.below hb8
      have hhow := hE1.how (nth 0 c.args c.scope.length).toNat (by omega)
      have hq3 : nth 0 c.args c.scope.length < 3 := by omega
      have hlc : c.scope.length < c.args.length := by omega
      have hsh : (nth [] howsT (nth 0 c.args c.scope.length).toNat).length ≤ 2 := by
        have : ∀ k : Nat, k < 3 → (nth [] howsT k).length ≤ 2 := by decide
        exact this _ (by omega)
      have hdt : Hid ((ByteArray.mk #[58, 32] ++ ByteArray.mk (nth [] howsT (nth 0 c.args c.scope.length).toNat).toArray).data.toList = [58, 32] ++ nth [] howsT (nth 0 c.args c.scope.length).toNat) := Lib.hid (by simp)
      have hsz : Hid ((ByteArray.mk #[58, 32] ++ ByteArray.mk (nth [] howsT (nth 0 c.args c.scope.length).toNat).toArray).size = 2 + (nth [] howsT (nth 0 c.args c.scope.length).toNat).length) := Lib.hid (by rw [ByteArray.size_append, size_mk]; rfl)
      have HE1 := Lib.hid hE1
      have HWk := Lib.hid (writeString_any b _ (ByteArray.mk #[58, 32] ++ ByteArray.mk (nth [] howsT (nth 0 c.args c.scope.length).toNat).toArray) _ (HBk.out.move (Below.drew (Below.refl wr.heap.size wr))) (by rw [hsz.out]; simp only [List.length_append, List.length_cons, List.length_nil]; omega))
      clear hE1
      go_wp2
      go_region_with (first
        | (go_at_call 35; refine HWk.out.mono ?_; rintro e W7 ⟨rfl, hB7, hk7⟩; (rw [hdt.out] at hB7); (have HB7 := Lib.hid hB7); (have HK7 := Lib.hid (HKk.out.trans (Kep.trans ⟨Below.drew (Below.refl b _), (Lib.OthersKept.refl _ _ _).drew⟩ hk7))); (obtain ⟨f0, f1, f2, f3⟩ := (Hbox.out.kep Hne.out (by decide) HK7.out).cells); (have hlt7 := Lib.hid hB7.lt); (obtain ⟨b8, o8, he8, g8⟩ := (Sl.elems (HS0.out.sl (by decide) H3.out HK7.out)).num (j := c.scope.length + 1) (by omega)); (injection he8 with he8); (injection he8 with he81 he82); subst he81 he82; clear hB7 hk7))
      have hs0 : IntKind.i64.wrap ((c.scope.length:Int) + 1) = (c.scope.length:Int) + 1 := IntWalk.i64_in _ (by omega)
      have hs1 : ((c.scope.length:Int) + 1).toNat = c.scope.length + 1 := by omega
      have hft := Lib.hid (fits_one (Hr.out (c.scope.length + 1) (by omega)))
      clear HWk HBk HKk ga hhow e0 e1 e2 e3
      go_wp2_with (first
        | (go_at_call 36; refine (numbers_any b _ _ [nth 0 c.args (c.scope.length + 1)] (· = W7.heap.size) _ (HB7.out.move (below_alloc1 _ _)) ((HE0.out.below HK7.out.below hb8).below (below_alloc1 _ _) (by have := (HE0.out.below HK7.out.below hb8).size; exact this)) hb8 (lit_one W7 _) (stays_lit W7 _ hlt7.out) hft.out (by simp only [List.length_append, List.length_cons, List.length_nil]; omega)).mono ?_; rintro e W8 ⟨rfl, hB8, hk8⟩; (have HB8 := Lib.hid hB8); (have HK8 := Lib.hid (HK7.out.trans ((kep_alloc W7 _ (Nat.le_of_lt hlt7.out)).trans hk8))); clear hB8 hk8))
      refine bodyPost_ret (results_none rfl _ _ _) rfl ?_
      exact ⟨rfl, by rw [HP.out]; simpa only [List.append_assoc] using HB8.out, HK0.out.trans HK8.out⟩

end Go.Proofs.YtoahaigfjfeopaaGreatDoor
