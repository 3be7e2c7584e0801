/- inst.parser: is, sign, number. -/
import Derived.Test.YtoahaigfjfeopaaGreatDoorWr
import Derived.Test.YtoahaigfjfeopaaGreatDoorPf
namespace Go.Proofs.YtoahaigfjfeopaaGreatDoor
open Go.RowKit

theorem bytes_eq (a b : List UInt8) : ((ByteArray.mk a.toArray).toList == (ByteArray.mk b.toArray).toList) = decide (a = b) := by
  rw [ByteArray.toList_eq, ByteArray.toList_eq]
  by_cases h : a = b <;> simp [h]

set_option maxHeartbeats 1000000 in
theorem is_any (g : Nat) (w : World) (t : Tok) (r : List Tok) (dv hv sv : Value) (s : List UInt8) (h : PB g w (t :: r) dv hv sv) :
    Calls Tryz.prog 103 #[.pointer (some ⟨g, 0, none⟩), .string ⟨s.toArray⟩] w fun e w' => e = .returned (.bool (isP t s)) ∧ PB g w' (if isP t s then r else t :: r) dv hv sv ∧ w.grownBy w' (some g) := by
  have hgw := h.lt
  have H := Lib.hid h
  obtain ⟨A, n, c, hg, hs⟩ := h
  obtain ⟨b, o, rfl, hb, hn, hnc, hmc, c0, c1, c2, c3⟩ := tok_head hs
  have g0 := cell_at hg (i := 0) rfl
  have hn0 : 0 < n := by omega
  have hbw : b < w.heap.size := by omega
  have hbg : ¬ b = g := by omega
  have hT : Hid (isP t s = ((t.kind == 1 || t.kind == 3) && ((ByteArray.mk t.text.toArray).toList == (ByteArray.mk s.toArray).toList))) := Lib.hid (by unfold isP; simp only [bytes_eq])
  generalize (ByteArray.mk t.text.toArray) = tb at c1 hT
  generalize (ByteArray.mk s.toArray) = sb at hT ⊢
  clear hs hg hn
  by_cases hk : t.kind = 1 ∨ t.kind = 3
  · have hne : ¬ t.kind = 4 := by omega
    have hk13 : (t.kind == 1 || t.kind == 3) = true := by rcases hk with h | h <;> simp [h]
    have HK := Lib.hid hk13
    clear hk13
    by_cases hx : (tb.toList == sb.toList) = true
    · have HX : Hid (isP t s = true) := Lib.hid (by rw [hT.out, HK.out, hx]; rfl)
      rw [HX.out]
      rcases hk with hk | hk
      all_goals
        have hk1 : (t.kind != 1) = !(t.kind == 1) := rfl
        go_enter Tryz.func103, Tryz.ntmps103
        go_wp2_with (go_at_call 69; refine (next_any g _ t r dv hv sv (H.out.grown (World.grownBy_alloc _ _ none) (by simp))).mono ?_; rintro e w' ⟨rfl, hp, hg⟩)
        all_goals go_ret
        all_goals rw [if_neg hne] at hp
        all_goals exact ⟨rfl, hp, (World.grownBy_alloc _ _ _).trans hg⟩
    · have hx := Bool.eq_false_iff.2 hx
      have HX : Hid (isP t s = false) := Lib.hid (by rw [hT.out, HK.out, hx]; rfl)
      rw [HX.out]
      rcases hk with hk | hk
      all_goals
        go_enter Tryz.func103, Tryz.ntmps103
        go_wp2
        all_goals refine bodyPost_ret (v := .bool false) (by simp [results, Tryz.results103, go_sem]) rfl ?_
        all_goals exact ⟨rfl, H.out.grown (World.grownBy_alloc _ _ none) (by simp), World.grownBy_alloc _ _ _⟩
  · have hk1 : (t.kind != 1) = true := by simp; omega
    have hk3 : (t.kind != 3) = true := by simp; omega
    have HX : Hid (isP t s = false) := Lib.hid (by rw [hT.out]; simp at hk; simp [hk.1, hk.2])
    rw [HX.out]
    go_enter Tryz.func103, Tryz.ntmps103
    go_wp2
    all_goals refine bodyPost_ret (v := .bool false) (by simp [results, Tryz.results103, go_sem]) rfl ?_
    all_goals exact ⟨rfl, H.out.grown (World.grownBy_alloc _ _ none) (by simp), World.grownBy_alloc _ _ _⟩

/-- A row of tokens that does not end but at an end token. -/
def Toks : List Tok → Prop
  | [] => False
  | t :: r => t.kind = 4 ∨ Toks r
theorem Toks.cons {ts : List Tok} (h : Toks ts) : ∃ t r, ts = t :: r := by
  cases ts with
  | nil => exact h.elim
  | cons t r => exact ⟨t, r, rfl⟩
theorem Toks.tail {t : Tok} {r : List Tok} (h : Toks (t :: r)) (h4 : ¬ t.kind = 4) : Toks r := by
  rcases h with h | h
  · exact absurd h h4
  · exact h
theorem isP_kind {t : Tok} {s : List UInt8} (h : isP t s = true) : ¬ t.kind = 4 := by
  intro h4; simp [isP, h4] at h
theorem below_grown0 {w w1 : World} (h : Below w.heap.size w w1) (row : Option Nat) : w.grownBy w1 row := ⟨h.os, h.tape, h.output, h.size, fun k hk _ => h.block k hk⟩

set_option maxHeartbeats 1000000 in
theorem sign_any (g : Nat) (w : World) (t : Tok) (r : List Tok) (dv hv sv : Value) (s : List UInt8) (h : PB g w (t :: r) dv hv sv) (hT : Toks (t :: r)) :
    Calls Tryz.prog 75 #[.pointer (some ⟨g, 0, none⟩), .string ⟨s.toArray⟩] w fun e w' => (if isP t s then e = .returned (.tuple #[]) ∧ PB g w' r dv hv sv else e = wrongs t.at_ 3) ∧ w.grownBy w' (some g) := by
  have hc := Lib.hid (is_any g w t r dv hv sv s h)
  by_cases hi : isP t s = true
  · obtain ⟨t2, r2, rfl⟩ := (hT.tail (isP_kind hi)).cons
    rw [hi] at hc
    simp only [hi, if_true] at hc ⊢
    clear h hT hi
    go_enter Tryz.func75, Tryz.ntmps75
    go_wp2_with (go_at_call 103; refine hc.out.mono ?_)
    rintro e w1 ⟨rfl, hp, hg⟩
    have HP := Lib.hid hp
    have HG := Lib.hid hg
    have hgw := hp.lt
    obtain ⟨A, n, c, hgb, hs⟩ := hp
    obtain ⟨b, o, rfl, hb, hn, hnc, hmc, c0, c1, c2, c3⟩ := tok_head hs
    have g0 := cell_at hgb (i := 0) rfl
    have hn0 : 0 < n := by omega
    clear hc hg hgb hs hn
    generalize (ByteArray.mk t2.text.toArray) = tb at c1
    go_wp2_with (go_at_call 71; refine (must_ok _ _ _ _ _ _).mono ?_; rintro e w' ⟨rfl, hb2⟩)
    all_goals go_end0
    all_goals exact ⟨⟨rfl, HP.out.grown (below_grown0 hb2 none) (by simp)⟩, HG.out.trans (below_grown0 hb2 _)⟩
  · have hi := Bool.eq_false_iff.2 hi
    simp only [hi, if_false, Bool.false_eq_true] at hc ⊢
    clear h hT hi
    go_enter Tryz.func75, Tryz.ntmps75
    go_wp2_with (go_at_call 103; refine hc.out.mono ?_)
    rintro e w1 ⟨rfl, hp, hg⟩
    have HP := Lib.hid hp
    have HG := Lib.hid hg
    have hgw := hp.lt
    obtain ⟨A, n, c, hgb, hs⟩ := hp
    obtain ⟨b, o, rfl, hb, hn, hnc, hmc, c0, c1, c2, c3⟩ := tok_head hs
    have g0 := cell_at hgb (i := 0) rfl
    have hn0 : 0 < n := by omega
    clear hc hg hgb hs hn
    generalize (ByteArray.mk t.text.toArray) = tb at c1
    go_wp2_with (go_at_call 71; refine (must_bad _ _ _ _ _ _).mono ?_; rintro e w' ⟨rfl, hb2⟩)
    all_goals exact ⟨rfl, rfl, HG.out.trans (below_grown0 hb2 _)⟩
end Go.Proofs.YtoahaigfjfeopaaGreatDoor
