/- What the printer's comma, hard and soft write. -/
import Derived.Test.YtoahaigfjfeopaaGreatDoorWh
import Derived.Deep.DeepMust
namespace Go.Proofs.YtoahaigfjfeopaaGreatDoor
open Go.RowKit

theorem size_mk (l : List UInt8) : (ByteArray.mk l.toArray).size = l.length := by simp [ByteArray.size]
theorem data_mk (l : List UInt8) : (ByteArray.mk l.toArray).data.toList = l := by simp

set_option maxRecDepth 100000 in
theorem comma_any (b : Nat) (l : List UInt8) (i : Nat) (w : World) (hB : Bld b l w) (hi : i ≤ 140737488355328) (hlen : l.length + (commaP i).length ≤ 140737488355328) :
    Calls Tryz.prog 64 #[.pointer (some ⟨b, 0, none⟩), .int .i64 i] w fun e w' => e = .returned (.tuple #[]) ∧ Bld b (l ++ commaP i) w' ∧ Kep b w w' := by
  by_cases h : 0 < i
  · have e : commaP i = [44] := by simp [commaP, h]
    have hl : l.length + 1 ≤ 140737488355328 := by rw [e] at hlen; simpa using hlen
    have H := Lib.hid e
    have HB := Lib.hid hB
    clear e hlen hB
    go_enter Tryz.func64, Tryz.ntmps64
    go_wp2_with (go_at_call 65; refine (writeByte_any b _ 44 _ HB.out hl).mono ?_; rintro e w2 ⟨rfl, hB2, hk2⟩; have HB2 := Lib.hid hB2; have HK2 := Lib.hid hk2; clear hB2 hk2)
    go_end0
    exact ⟨rfl, by rw [H.out]; exact HB2.out, HK2.out⟩
  · have e : commaP i = [] := by simp [commaP, h]
    go_enter Tryz.func64, Tryz.ntmps64
    go_wp2
    go_end0
    exact ⟨rfl, by rw [e, List.append_nil]; exact hB, Kep.refl _ _⟩

/-- A box behind the printer that holds four cells. -/
structure Box4 (g : Nat) (t : TypeId) (u0 u1 u2 u3 : Value) (W : World) : Prop where
  block : W.heap[g]? = some (.cells #[u0, u1, u2, u3] t (0, 0))
theorem Box4.kep {g : Nat} {t : TypeId} {u0 u1 u2 u3 : Value} {b : Nat} {W W1 : World} (h : Box4 g t u0 u1 u2 u3 W) (hg : g ≠ b) (ht : t ≠ 5) (hk : Kep b W W1) : Box4 g t u0 u1 u2 u3 W1 :=
  ⟨hk.others g _ h.block (by simpa using hg) (fun _ _ e => ht (by injection e))⟩
theorem Box4.below {g : Nat} {t : TypeId} {u0 u1 u2 u3 : Value} {W W1 : World} (h : Box4 g t u0 u1 u2 u3 W) (hk : Below W.heap.size W W1) : Box4 g t u0 u1 u2 u3 W1 := ⟨block_kept hk h.block⟩
theorem Box4.cells {g : Nat} {t : TypeId} {u0 u1 u2 u3 : Value} {W : World} (h : Box4 g t u0 u1 u2 u3 W) :
    W.cell? ⟨g, 0, none⟩ = some u0 ∧ W.cell? ⟨g, 1, none⟩ = some u1 ∧ W.cell? ⟨g, 2, none⟩ = some u2 ∧ W.cell? ⟨g, 3, none⟩ = some u3 :=
  ⟨cell_at h.block (i := 0) rfl, cell_at h.block (i := 1) rfl, cell_at h.block (i := 2) rfl, cell_at h.block (i := 3) rfl⟩
/-- What is read stands while the printer writes: it lies below the printer, or in blocks that are no bytes. -/
def Stays (b : Nat) (w : World) (ok : Nat → Prop) : Prop := ∀ k, ok k → k < b ∨ ∃ c t fr, w.heap[k]? = some (.cells c t fr) ∧ t ≠ 5 ∧ k ≠ b
theorem Stays.kep {b : Nat} {w w1 : World} {ok : Nat → Prop} (h : Stays b w ok) (hk : Kep b w w1) : Stays b w1 ok := fun k ho => by
  rcases h k ho with h | ⟨c, t, fr, h, ht, hkb⟩
  · exact .inl h
  · exact .inr ⟨c, t, fr, hk.others k _ h (by simpa using hkb) (fun c' fz e => ht (by injection e)), ht, hkb⟩
theorem Stays.below {b : Nat} {w w1 : World} {ok : Nat → Prop} (h : Stays b w ok) (hk : Below w.heap.size w w1) : Stays b w1 ok := fun k ho => by
  rcases h k ho with h | ⟨c, t, fr, h, ht, hkb⟩
  · exact .inl h
  · exact .inr ⟨c, t, fr, block_kept hk h, ht, hkb⟩
theorem Stays.sl {α : Type} {d : Kd α} {b : Nat} {w w1 : World} {ok : Nat → Prop} {v : Value} {xs : List α} (hs : 0 < d.sz) (h : Stays b w ok) (hv : Sl d w ok v xs) (hk : Kep b w w1) : Sl d w1 ok v xs :=
  (hv.move hs fun k ho _ => by
    rcases h k ho with h | ⟨c, t, fr, h, ht, hkb⟩
    · exact hk.below.block k h
    · exact (hk.others k _ h (by simpa using hkb) (fun c' fz e => ht (by injection e))).trans h.symm).mono fun _ h => h.1

set_option maxRecDepth 100000 in
set_option maxHeartbeats 1000000 in
theorem hard_plain (b : Nat) (l : List UInt8) (vs vr va : Value) (c : Con) (ok : Nat → Prop) (w : World) (hB : Bld b l w) (hE : Env w) (hb8 : 8 ≤ b) (hS : Stays b w ok) (h1 : Sl (Kd.int .i64) w ok vs c.scope)
    (hq1 : 2 < c.kind) (hq2 : c.kind < 6) (hf : Fits c.scope) (hlen : l.length + (hardP c).length ≤ 140737488355328) :
    Calls Tryz.prog 37 #[.pointer (some ⟨b, 0, none⟩), .agg #[.int .i64 c.kind, vs, vr, va]] w fun e w' => e = .returned (.tuple #[]) ∧ Bld b (l ++ hardP c) w' ∧ Kep b w w' := by
  have hP : hardP c = nth [] wordsT c.kind.toNat ++ numsP c.scope := by
    unfold hardP; rw [if_neg (by omega), if_pos hq1, List.append_nil]
  have hbw : b < w.heap.size := by obtain ⟨_, _, _, h, _⟩ := hB; exact lt_of_block h
  have h1' := h1
  obtain ⟨As, cps, rfl, hs1, hs2, _⟩ := h1
  have HB0 := below_alloc1 w (.cells #[.int .i64 c.kind, .slice As c.scope.length cps, vr, va] 43)
  have hbox0 : Box4 w.heap.size 43 (.int .i64 c.kind) (.slice As c.scope.length cps) vr va (w.alloc (.cells #[.int .i64 c.kind, .slice As c.scope.length cps, vr, va] 43)) := ⟨heap_alloc_new w _⟩
  have hword := (hE.below HB0 hE.size).word c.kind.toNat (by omega)
  have hk0 : 0 ≤ c.kind := by omega
  have hk7 : c.kind < 7 := by omega
  have hkne : (c.kind == 6) = false := by simp; omega
  have hl : l.length + (nth [] wordsT c.kind.toNat).length + (numsP c.scope).length ≤ 140737488355328 := by rw [hP, List.length_append] at hlen; omega
  have HP := Lib.hid hP
  have hdr := Below.drew (Below.refl (w.alloc (.cells #[.int .i64 c.kind, .slice As c.scope.length cps, vr, va] 43)).heap.size (w.alloc (.cells #[.int .i64 c.kind, .slice As c.scope.length cps, vr, va] 43)))
  have HW := Lib.hid (writeString_any b l ⟨(nth [] wordsT c.kind.toNat).toArray⟩ _ ((hB.move HB0).move hdr) (by rw [size_mk]; omega))
  have HS0 := Lib.hid (hS.below HB0)
  have H1 := Lib.hid (h1'.below (by decide) HB0)
  have HE0 := Lib.hid (hE.below HB0 hE.size)
  have HK0 : Hid (Kep b w (w.alloc (.cells #[.int .i64 c.kind, .slice As c.scope.length cps, vr, va] 43))) := Lib.hid ⟨(Below.refl b w).alloc (by omega) _, (Lib.OthersKept.refl _ _ w).alloc _⟩
  have Hf := Lib.hid hf
  have Hbox := Lib.hid hbox0
  have hne : w.heap.size ≠ b := by omega
  have Hne := Lib.hid hne
  clear hP hlen hB hS h1' hE hf HB0 hdr hbox0 hne
  go_enter Tryz.func37, Tryz.ntmps37
  go_wp2
  go_region_with (first
    | (go_at_call 35; refine HW.out.mono ?_; rintro e W2 ⟨rfl, hB2, hk2⟩; (have HB2 := Lib.hid hB2); (have HK2 := Lib.hid (Kep.trans ⟨Below.drew (Below.refl b _), (Lib.OthersKept.refl _ _ _).drew⟩ hk2)); (obtain ⟨c0, c1, c2, c3⟩ := (Hbox.out.kep Hne.out (by decide) HK2.out).cells); clear hB2 hk2))
  go_wp2_with (first
    | (go_at_call 36; refine (numbers_any b _ _ c.scope ok _ HB2.out (HE0.out.below HK2.out.below hb8) hb8 (HS0.out.sl (by decide) H1.out HK2.out) (HS0.out.kep HK2.out) Hf.out (by rw [List.length_append]; omega)).mono ?_; rintro e W3 ⟨rfl, hB3, hk3⟩; (have HB3 := Lib.hid hB3); (have HK3 := Lib.hid (HK2.out.trans hk3)); (obtain ⟨d0, d1, d2, d3⟩ := (Hbox.out.kep Hne.out (by decide) HK3.out).cells); clear hB3 hk3))
  refine bodyPost_ret (results_none rfl _ _ _) rfl ?_
  exact ⟨rfl, by rw [HP.out, ← List.append_assoc]; exact HB3.out, HK0.out.trans HK3.out⟩
end Go.Proofs.YtoahaigfjfeopaaGreatDoor
