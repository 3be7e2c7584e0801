/- Texts joined: Wi Wj Wk Wl Wd We Wf Wm Pg Wal Ph Wam Wan Pi Wap Pj Pk Pl Pm. -/
import Derived.Test.YtoahaigfjfeopaaGreatDoorHa
import Derived.Deep.DeepMust
import Derived.Test.YtoahaigfjfeopaaGreatDoorHb
import Derived.KernelRfl
import Derived.Test.YtoahaigfjfeopaaGreatDoorHd
import Derived.Lib.ItoaLen
import Derived.Laws.IdiomStrings
import Derived.Lib.ItoaNum
import Derived.Lib.ParseIntBCases
/- What the printer's comma, hard and soft write. -/
namespace Go.Proofs.YtoahaigfjfeopaaGreatDoor
open Go.RowKit

theorem size_mk (l : List UInt8) : (ByteArray.mk l.toArray).size = l.length := by simp [ByteArray.size]
theorem data_mk (l : List UInt8) : (ByteArray.mk l.toArray).data.toList = l := by simp

set_option maxRecDepth 100000 in
theorem comma_any (b : Nat) (l : List UInt8) (i : Nat) (w : World) (hB : Bld b l w) (_ : i ≤ 140737488355328) (hlen : l.length + (commaP i).length ≤ 140737488355328) :
    Calls Tryz.prog 64 #[.pointer (some ⟨b, 0, none⟩), .int .i64 i] w fun e w' => e = .returned (.tuple #[]) ∧ Bld b (l ++ commaP i) w' ∧ Kep b w w' := by
  by_cases h : 0 < i
  · have e : commaP i = [44] := by simp [commaP, h]
    have hl : l.length + 1 ≤ 140737488355328 := by rw [e] at hlen; simpa using hlen
    have H := Lib.hid e
    have HB := Lib.hid hB
    clear e hlen hB
    go_enter Tryz.func64, Tryz.ntmps64
    go_wp2_with (go_at_call 65; refine (writeByte_any b _ 44 _ HB.out hl).mono ?_; rintro e w2 ⟨rfl, hB2, hk2⟩; have HB2 := Lib.hid hB2; have HK2 := Lib.hid hk2; clear hB2 hk2)
    go_end0
    exact ⟨rfl, by rw [H.out]; exact HB2.out, HK2.out⟩
  · have e : commaP i = [] := by simp [commaP, h]
    go_enter Tryz.func64, Tryz.ntmps64
    go_wp2
    go_end0
    exact ⟨rfl, by rw [e, List.append_nil]; exact hB, Kep.refl _ _⟩

/-- A box behind the printer that holds four cells. -/
structure Box4 (g : Nat) (t : TypeId) (u0 u1 u2 u3 : Value) (W : World) : Prop where
  block : W.heap[g]? = some (.cells #[u0, u1, u2, u3] t (0, 0))
theorem Box4.kep {g : Nat} {t : TypeId} {u0 u1 u2 u3 : Value} {b : Nat} {W W1 : World} (h : Box4 g t u0 u1 u2 u3 W) (hg : g ≠ b) (ht : t ≠ 5) (hk : Kep b W W1) : Box4 g t u0 u1 u2 u3 W1 :=
  ⟨hk.others g _ h.block (by simpa using hg) (fun _ _ e => ht (by injection e))⟩
theorem Box4.below {g : Nat} {t : TypeId} {u0 u1 u2 u3 : Value} {W W1 : World} (h : Box4 g t u0 u1 u2 u3 W) (hk : Below W.heap.size W W1) : Box4 g t u0 u1 u2 u3 W1 := ⟨block_kept hk h.block⟩
theorem Box4.cells {g : Nat} {t : TypeId} {u0 u1 u2 u3 : Value} {W : World} (h : Box4 g t u0 u1 u2 u3 W) :
    W.cell? ⟨g, 0, none⟩ = some u0 ∧ W.cell? ⟨g, 1, none⟩ = some u1 ∧ W.cell? ⟨g, 2, none⟩ = some u2 ∧ W.cell? ⟨g, 3, none⟩ = some u3 :=
  ⟨cell_at h.block (i := 0) rfl, cell_at h.block (i := 1) rfl, cell_at h.block (i := 2) rfl, cell_at h.block (i := 3) rfl⟩
/-- What is read stands while the printer writes: it lies below the printer, or in blocks that are no bytes. -/
def Stays (b : Nat) (w : World) (ok : Nat → Prop) : Prop := ∀ k, ok k → k < b ∨ ∃ c t fr, w.heap[k]? = some (.cells c t fr) ∧ t ≠ 5 ∧ k ≠ b
theorem Stays.kep {b : Nat} {w w1 : World} {ok : Nat → Prop} (h : Stays b w ok) (hk : Kep b w w1) : Stays b w1 ok := fun k ho => by
  rcases h k ho with h | ⟨c, t, fr, h, ht, hkb⟩
  · exact .inl h
  · exact .inr ⟨c, t, fr, hk.others k _ h (by simpa using hkb) (fun c' fz e => ht (by injection e)), ht, hkb⟩
theorem Stays.below {b : Nat} {w w1 : World} {ok : Nat → Prop} (h : Stays b w ok) (hk : Below w.heap.size w w1) : Stays b w1 ok := fun k ho => by
  rcases h k ho with h | ⟨c, t, fr, h, ht, hkb⟩
  · exact .inl h
  · exact .inr ⟨c, t, fr, block_kept hk h, ht, hkb⟩
theorem Stays.sl {α : Type} {d : Kd α} {b : Nat} {w w1 : World} {ok : Nat → Prop} {v : Value} {xs : List α} (hs : 0 < d.sz) (h : Stays b w ok) (hv : Sl d w ok v xs) (hk : Kep b w w1) : Sl d w1 ok v xs :=
  (hv.move hs fun k ho _ => by
    rcases h k ho with h | ⟨c, t, fr, h, ht, hkb⟩
    · exact hk.below.block k h
    · exact (hk.others k _ h (by simpa using hkb) (fun c' fz e => ht (by injection e))).trans h.symm).mono fun _ h => h.1

set_option maxRecDepth 100000 in
set_option maxHeartbeats 1000000 in
theorem hard_plain (b : Nat) (l : List UInt8) (vs vr va : Value) (c : Con) (ok : Nat → Prop) (w : World) (hB : Bld b l w) (hE : Env w) (hb8 : 8 ≤ b) (hS : Stays b w ok) (h1 : Sl (Kd.int .i64) w ok vs c.scope)
    (hq1 : 2 < c.kind) (hq2 : c.kind < 6) (hf : Fits c.scope) (hlen : l.length + (hardP c).length ≤ 140737488355328) :
    Calls Tryz.prog 37 #[.pointer (some ⟨b, 0, none⟩), .agg #[.int .i64 c.kind, vs, vr, va]] w fun e w' => e = .returned (.tuple #[]) ∧ Bld b (l ++ hardP c) w' ∧ Kep b w w' := by
  have hP : hardP c = nth [] wordsT c.kind.toNat ++ numsP c.scope := by
    unfold hardP; rw [if_neg (by omega), if_pos hq1, List.append_nil]
  have hbw : b < w.heap.size := by obtain ⟨_, _, _, h, _⟩ := hB; exact lt_of_block h
  have h1' := h1
  obtain ⟨As, cps, rfl, hs1, hs2, _⟩ := h1
  have HB0 := below_alloc1 w (.cells #[.int .i64 c.kind, .slice As c.scope.length cps, vr, va] 43)
  have hbox0 : Box4 w.heap.size 43 (.int .i64 c.kind) (.slice As c.scope.length cps) vr va (w.alloc (.cells #[.int .i64 c.kind, .slice As c.scope.length cps, vr, va] 43)) := ⟨heap_alloc_new w _⟩
  have hword := (hE.below HB0 hE.size).word c.kind.toNat (by omega)
  have hk0 : 0 ≤ c.kind := by omega
  have hk7 : c.kind < 7 := by omega
  have hkne : (c.kind == 6) = false := by simp; omega
  have hl : l.length + (nth [] wordsT c.kind.toNat).length + (numsP c.scope).length ≤ 140737488355328 := by rw [hP, List.length_append] at hlen; omega
  have HP := Lib.hid hP
  have hdr := Below.drew (Below.refl (w.alloc (.cells #[.int .i64 c.kind, .slice As c.scope.length cps, vr, va] 43)).heap.size (w.alloc (.cells #[.int .i64 c.kind, .slice As c.scope.length cps, vr, va] 43)))
  have HW := Lib.hid (writeString_any b l ⟨(nth [] wordsT c.kind.toNat).toArray⟩ _ ((hB.move HB0).move hdr) (by rw [size_mk]; omega))
  have HS0 := Lib.hid (hS.below HB0)
  have H1 := Lib.hid (h1'.below (by decide) HB0)
  have HE0 := Lib.hid (hE.below HB0 hE.size)
  have HK0 : Hid (Kep b w (w.alloc (.cells #[.int .i64 c.kind, .slice As c.scope.length cps, vr, va] 43))) := Lib.hid ⟨(Below.refl b w).alloc (by omega) _, (Lib.OthersKept.refl _ _ w).alloc _⟩
  have Hf := Lib.hid hf
  have Hbox := Lib.hid hbox0
  have hne : w.heap.size ≠ b := by omega
  have Hne := Lib.hid hne
  clear hP hlen hB hS h1' hE hf HB0 hdr hbox0 hne
  go_enter Tryz.func37, Tryz.ntmps37
  go_wp2
  go_region_with (first
    | (go_at_call 35; refine HW.out.mono ?_; rintro e W2 ⟨rfl, hB2, hk2⟩; (have HB2 := Lib.hid hB2); (have HK2 := Lib.hid (Kep.trans ⟨Below.drew (Below.refl b _), (Lib.OthersKept.refl _ _ _).drew⟩ hk2)); (obtain ⟨c0, c1, c2, c3⟩ := (Hbox.out.kep Hne.out (by decide) HK2.out).cells); clear hB2 hk2))
  go_wp2_with (first
    | (go_at_call 36; refine (numbers_any b _ _ c.scope ok _ HB2.out (HE0.out.below HK2.out.below hb8) hb8 (HS0.out.sl (by decide) H1.out HK2.out) (HS0.out.kep HK2.out) Hf.out (by rw [List.length_append]; omega)).mono ?_; rintro e W3 ⟨rfl, hB3, hk3⟩; (have HB3 := Lib.hid hB3); (have HK3 := Lib.hid (HK2.out.trans hk3)); (obtain ⟨d0, d1, d2, d3⟩ := (Hbox.out.kep Hne.out (by decide) HK3.out).cells); clear hB3 hk3))
  refine bodyPost_ret (results_none rfl _ _ _) rfl ?_
  exact ⟨rfl, by rw [HP.out, ← List.append_assoc]; exact HB3.out, HK0.out.trans HK3.out⟩
end Go.Proofs.YtoahaigfjfeopaaGreatDoor

/- What the printer's hard writes of a table, and of a sum. -/
namespace Go.Proofs.YtoahaigfjfeopaaGreatDoor
open Go.RowKit

set_option maxRecDepth 100000 in
set_option maxHeartbeats 1000000 in
theorem hard_table (b : Nat) (l : List UInt8) (vs vr va : Value) (c : Con) (ok : Nat → Prop) (w : World) (hB : Bld b l w) (hE : Env w) (hb8 : 8 ≤ b) (hS : Stays b w ok) (h1 : Sl (Kd.int .i64) w ok vs c.scope)
    (hq1 : 1 ≤ c.kind) (hq2 : c.kind ≤ 2) (h2 : Sl kRow w ok vr c.rows) (hf : Fits c.scope) (hr : ∀ k, k < c.rows.length → Fits (nth [] c.rows k)) (hrl : c.rows.length ≤ 140737488355328) (hlen : l.length + (hardP c).length ≤ 140737488355328) :
    Calls Tryz.prog 37 #[.pointer (some ⟨b, 0, none⟩), .agg #[.int .i64 c.kind, vs, vr, va]] w fun e w' => e = .returned (.tuple #[]) ∧ Bld b (l ++ hardP c) w' ∧ Kep b w w' := by
  have hP : hardP c = nth [] wordsT c.kind.toNat ++ (numsP c.scope ++ ([58] ++ rowsP 0 c.rows)) := by
    unfold hardP; rw [if_neg (by omega), if_neg (by omega)]
  have hbw : b < w.heap.size := by obtain ⟨_, _, _, h, _⟩ := hB; exact lt_of_block h
  have h1' := h1
  obtain ⟨As, cps, rfl, hs1, hs2, _⟩ := h1
  have h2' := h2
  obtain ⟨Ar, cpr, rfl, hr1, hr2, _⟩ := h2
  have HB0 := below_alloc1 w (.cells #[.int .i64 c.kind, .slice As c.scope.length cps, .slice Ar c.rows.length cpr, va] 43)
  have hbox0 : Box4 w.heap.size 43 (.int .i64 c.kind) (.slice As c.scope.length cps) (.slice Ar c.rows.length cpr) va (w.alloc (.cells #[.int .i64 c.kind, .slice As c.scope.length cps, .slice Ar c.rows.length cpr, va] 43)) := ⟨heap_alloc_new w _⟩
  have hword := (hE.below HB0 hE.size).word c.kind.toNat (by omega)
  have hk0 : 0 ≤ c.kind := by omega
  have hk7 : c.kind < 7 := by omega
  have hkne : (c.kind == 6) = false := by simp; omega
  have hl : l.length + (nth [] wordsT c.kind.toNat).length + (numsP c.scope).length + 1 + (rowsP 0 c.rows).length ≤ 140737488355328 := by rw [hP, List.length_append, List.length_append, List.length_append] at hlen; simp at hlen; omega
  have HP := Lib.hid hP
  have hdr := Below.drew (Below.refl (w.alloc (.cells #[.int .i64 c.kind, .slice As c.scope.length cps, .slice Ar c.rows.length cpr, va] 43)).heap.size (w.alloc (.cells #[.int .i64 c.kind, .slice As c.scope.length cps, .slice Ar c.rows.length cpr, va] 43)))
  have HW := Lib.hid (writeString_any b l ⟨(nth [] wordsT c.kind.toNat).toArray⟩ _ ((hB.move HB0).move hdr) (by rw [size_mk]; omega))
  have HS0 := Lib.hid (hS.below HB0)
  have H1 := Lib.hid (h1'.below (by decide) HB0)
  have H2 := Lib.hid (h2'.below (by decide) HB0)
  have Hr := Lib.hid hr
  have HE0 := Lib.hid (hE.below HB0 hE.size)
  have HK0 : Hid (Kep b w (w.alloc (.cells #[.int .i64 c.kind, .slice As c.scope.length cps, .slice Ar c.rows.length cpr, va] 43))) := Lib.hid ⟨(Below.refl b w).alloc (by omega) _, (Lib.OthersKept.refl _ _ w).alloc _⟩
  have Hf := Lib.hid hf
  have Hbox := Lib.hid hbox0
  have hne : w.heap.size ≠ b := by omega
  have Hne := Lib.hid hne
  clear hP hlen hB hS h1' h2' hr hE hf HB0 hdr hbox0 hne
  go_enter Tryz.func37, Tryz.ntmps37
  go_wp2
  go_region_with (first
    | (go_at_call 35; refine HW.out.mono ?_; rintro e W2 ⟨rfl, hB2, hk2⟩; (have HB2 := Lib.hid hB2); (have HK2 := Lib.hid (Kep.trans ⟨Below.drew (Below.refl b _), (Lib.OthersKept.refl _ _ _).drew⟩ hk2)); (obtain ⟨c0, c1, c2, c3⟩ := (Hbox.out.kep Hne.out (by decide) HK2.out).cells); clear hB2 hk2))
  go_wp2_with (first
    | (go_at_call 36; refine (numbers_any b _ _ c.scope ok _ HB2.out (HE0.out.below HK2.out.below hb8) hb8 (HS0.out.sl (by decide) H1.out HK2.out) (HS0.out.kep HK2.out) Hf.out (by rw [List.length_append]; omega)).mono ?_; rintro e W3 ⟨rfl, hB3, hk3⟩; (have HB3 := Lib.hid hB3); (have HK3 := Lib.hid (HK2.out.trans hk3)); (obtain ⟨d0, d1, d2, d3⟩ := (Hbox.out.kep Hne.out (by decide) HK3.out).cells); clear hB3 hk3)
    | (go_at_call 65; refine (writeByte_any b _ 58 _ HB3.out (by rw [List.length_append, List.length_append]; omega)).mono ?_; rintro e W4 ⟨rfl, hB4, hk4⟩; (have HB4 := Lib.hid hB4); (have HK4 := Lib.hid (HK3.out.trans hk4)); (obtain ⟨e0, e1, e2, e3⟩ := (Hbox.out.kep Hne.out (by decide) HK4.out).cells); clear hB4 hk4))
  clear HW c0 c1 c2 c3 d0 d1 d2 d3
  go_loopw [79] (fun i wr => ∃ k : Nat, i = .int .i64 k ∧ k ≤ c.rows.length ∧ Hid (Bld b (l ++ (nth [] wordsT c.kind.toNat) ++ numsP c.scope ++ [58] ++ rowsP 0 (c.rows.take k)) wr) ∧ Hid (Kep b (w.alloc (.cells #[.int .i64 c.kind, .slice As c.scope.length cps, .slice Ar c.rows.length cpr, va] 43)) wr)) (fun i _ => c.rows.length - (intOf i).toNat)
  case atStart => exact ⟨0, rfl, by omega, Lib.hid (by simpa [rowsP] using HB4.out), HK4⟩
  case round =>
    obtain ⟨k, rfl, hk, HBk, HKk⟩ := hrel
    clear HB2 HB3 HB4 HK2 HK3 HK4 e0 e1 e2 e3
    by_cases hlt : k < c.rows.length
    · obtain ⟨b1, o1, vt, rfl, g1, ht⟩ := (Sl.elems (HS0.out.sl (by decide) H2.out HKk.out)).row hlt
      have HT := Lib.hid ht
      obtain ⟨At, ct, rfl, ht1, ht2, _⟩ := ht
      have hst := rowsP_step c.rows k hlt
      have hle := rowsP_take_le c.rows (k + 1)
      have hb2 : (rowsP 0 (c.rows.take k)).length + (commaP k).length + (numsP (nth [] c.rows k)).length ≤ (rowsP 0 c.rows).length := by
        rw [hst, List.length_append, List.length_append] at hle; omega
      have Hst := Lib.hid hst
      clear hst hle
      go_wp2_with (first
        | (go_at_call 64; refine (comma_any b _ k _ HBk.out (by omega) (by simp only [List.length_append, List.length_cons, List.length_nil]; omega)).mono ?_; rintro e W5 ⟨rfl, hB5, hk5⟩; (have HB5 := Lib.hid hB5); (have HK5 := Lib.hid (HKk.out.trans hk5)); (have HKt := Lib.hid hk5); clear hB5 hk5)
        | (go_at_call 36; refine (numbers_any b _ _ (nth [] c.rows k) ok _ HB5.out (HE0.out.below HK5.out.below hb8) hb8 ((HS0.out.kep HKk.out).sl (by decide) HT.out HKt.out) (HS0.out.kep HK5.out) (Hr.out k hlt) (by simp only [List.length_append, List.length_cons, List.length_nil]; omega)).mono ?_; rintro e W6 ⟨rfl, hB6, hk6⟩; (have HB6 := Lib.hid hB6); (have HK6 := Lib.hid (HK5.out.trans hk6)); clear hB6 hk6))
      go_roundw
      case rel => exact ⟨k + 1, by go_num, by omega, Lib.hid (by rw [Hst.out]; simpa only [List.append_assoc] using HB6.out), HK6⟩
      case measure => simp [intOf]; omega
    · go_wp2
      go_end0
      have e : c.rows.take k = c.rows := List.take_of_length_le (by omega)
      rw [e] at HBk
      exact ⟨rfl, by rw [HP.out]; simpa only [List.append_assoc] using HBk.out, HK0.out.trans HKk.out⟩

end Go.Proofs.YtoahaigfjfeopaaGreatDoor

/- What the printer's hard writes of a sum. -/
namespace Go.Proofs.YtoahaigfjfeopaaGreatDoor
open Go.RowKit

theorem lit_two (W : World) (a v : Int) : Sl (Kd.int .i64) (W.alloc (.cells #[.int .i64 a, .int .i64 v] 3)) (· = W.heap.size) (.slice (some ⟨W.heap.size, 0, none⟩) 2 2) [a, v] := by
  refine ⟨_, _, rfl, Nat.le_refl _, by simp, fun j x hx => ⟨W.heap.size, 0, [.int .i64 x], rfl, rfl, rfl, fun i u hu => ?_⟩⟩
  have hc : (W.alloc (.cells #[.int .i64 a, .int .i64 v] 3)).heap[W.heap.size]? = some (.cells #[.int .i64 a, .int .i64 v] 3 (0, 0)) := heap_alloc_new W _
  match i, hu with
  | 0, hu =>
    simp at hu; subst hu
    match j, hx with
    | 0, hx => simp at hx; subst hx; exact cell_at hc (i := 0) rfl
    | 1, hx => simp at hx; subst hx; exact cell_at hc (i := 1) rfl
theorem lit_one (W : World) (a : Int) : Sl (Kd.int .i64) (W.alloc (.cells #[.int .i64 a] 3)) (· = W.heap.size) (.slice (some ⟨W.heap.size, 0, none⟩) 1 1) [a] := by
  refine ⟨_, _, rfl, Nat.le_refl _, by simp, fun j x hx => ⟨W.heap.size, 0, [.int .i64 x], rfl, rfl, rfl, fun i u hu => ?_⟩⟩
  have hc : (W.alloc (.cells #[.int .i64 a] 3)).heap[W.heap.size]? = some (.cells #[.int .i64 a] 3 (0, 0)) := heap_alloc_new W _
  match i, hu with
  | 0, hu =>
    simp at hu; subst hu
    match j, hx with
    | 0, hx => simp at hx; subst hx; exact cell_at hc (i := 0) rfl
theorem stays_lit {b : Nat} (W : World) (cs : Array Value) (hb : b < W.heap.size) : Stays b (W.alloc (.cells cs 3)) (· = W.heap.size) := by
  rintro k rfl
  exact .inr ⟨cs, 3, (0, 0), heap_alloc_new W _, by decide, by omega⟩
theorem kep_alloc {b : Nat} (W : World) (o : Obj) (hb : b ≤ W.heap.size) : Kep b W (W.alloc o) := ⟨(Below.refl b W).alloc hb o, (Lib.OthersKept.refl _ _ W).alloc o⟩
theorem Bld.lt {b : Nat} {l : List UInt8} {w : World} (h : Bld b l w) : b < w.heap.size := by obtain ⟨_, _, _, h, _⟩ := h; exact lt_of_block h

set_option maxRecDepth 100000 in
set_option maxHeartbeats 1000000 in
theorem hard_linear (b : Nat) (l : List UInt8) (vs vr va : Value) (c : Con) (ok : Nat → Prop) (w : World) (hB : Bld b l w) (hE : Env w) (hb8 : 8 ≤ b) (hS : Stays b w ok) (h1 : Sl (Kd.int .i64) w ok vs c.scope)
    (hq : c.kind = 6) (h3 : Sl (Kd.int .i64) w ok va c.args) (hla : c.args.length = c.scope.length + 2) (hh0 : 0 ≤ nth 0 c.args c.scope.length) (hh2 : nth 0 c.args c.scope.length ≤ 2) (hf : Fits c.scope) (hr : Fits c.args) (hlen : l.length + (hardP c).length ≤ 140737488355328) :
    Calls Tryz.prog 37 #[.pointer (some ⟨b, 0, none⟩), .agg #[.int .i64 c.kind, vs, vr, va]] w fun e w' => e = .returned (.tuple #[]) ∧ Bld b (l ++ hardP c) w' ∧ Kep b w w' := by
  have hP : hardP c = nth [] wordsT 6 ++ (linP 0 c.args c.scope ++ ([58, 32] ++ nth [] howsT (nth 0 c.args c.scope.length).toNat) ++ numsP [nth 0 c.args (c.scope.length + 1)]) := by
    unfold hardP; rw [if_pos hq, hq]; rfl
  have hbw : b < w.heap.size := by obtain ⟨_, _, _, h, _⟩ := hB; exact lt_of_block h
  have h1' := h1
  obtain ⟨As, cps, rfl, hs1, hs2, _⟩ := h1
  have h3' := h3
  obtain ⟨Aa, cpa, rfl, ha1, ha2, _⟩ := h3
  rw [hq]
  have HB0 := below_alloc1 w (.cells #[.int .i64 6, .slice As c.scope.length cps, vr, .slice Aa c.args.length cpa] 43)
  have hbox0 : Box4 w.heap.size 43 (.int .i64 6) (.slice As c.scope.length cps) vr (.slice Aa c.args.length cpa) (w.alloc (.cells #[.int .i64 6, .slice As c.scope.length cps, vr, .slice Aa c.args.length cpa] 43)) := ⟨heap_alloc_new w _⟩
  have hword := (hE.below HB0 hE.size).word 6 (by omega)
  have hl : l.length + (nth [] wordsT 6).length + (linP 0 c.args c.scope).length + 2 + (nth [] howsT (nth 0 c.args c.scope.length).toNat).length + (numsP [nth 0 c.args (c.scope.length + 1)]).length ≤ 140737488355328 := by rw [hP, List.length_append, List.length_append, List.length_append, List.length_append] at hlen; simp only [List.length_cons, List.length_nil] at hlen; omega
  have HP := Lib.hid hP
  have hdr := Below.drew (Below.refl (w.alloc (.cells #[.int .i64 6, .slice As c.scope.length cps, vr, .slice Aa c.args.length cpa] 43)).heap.size (w.alloc (.cells #[.int .i64 6, .slice As c.scope.length cps, vr, .slice Aa c.args.length cpa] 43)))
  have HW := Lib.hid (writeString_any b l ⟨(nth [] wordsT 6).toArray⟩ _ ((hB.move HB0).move hdr) (by rw [size_mk]; omega))
  have HS0 := Lib.hid (hS.below HB0)
  have H1 := Lib.hid (h1'.below (by decide) HB0)
  have H3 := Lib.hid (h3'.below (by decide) HB0)
  have Hr := Lib.hid hr
  have hla1 : c.scope.length + 1 < c.args.length := by omega
  have HE0 := Lib.hid (hE.below HB0 hE.size)
  have HK0 : Hid (Kep b w (w.alloc (.cells #[.int .i64 6, .slice As c.scope.length cps, vr, .slice Aa c.args.length cpa] 43))) := Lib.hid ⟨(Below.refl b w).alloc (by omega) _, (Lib.OthersKept.refl _ _ w).alloc _⟩
  have Hf := Lib.hid hf
  have Hbox := Lib.hid hbox0
  have hne : w.heap.size ≠ b := by omega
  have Hne := Lib.hid hne
  clear hP hlen hB hS h1' h3' hr hla hq hE hf HB0 hdr hbox0 hne
  go_enter Tryz.func37, Tryz.ntmps37
  go_wp2
  go_region_with (first
    | (go_at_call 35; refine HW.out.mono ?_; rintro e W2 ⟨rfl, hB2, hk2⟩; (have HB2 := Lib.hid hB2); (have HK2 := Lib.hid (Kep.trans ⟨Below.drew (Below.refl b _), (Lib.OthersKept.refl _ _ _).drew⟩ hk2)); (obtain ⟨c0, c1, c2, c3⟩ := (Hbox.out.kep Hne.out (by decide) HK2.out).cells); clear hB2 hk2))
  go_wp2
  clear HW c0 c1 c2 c3
  go_loopw [26] (fun i wr => ∃ k : Nat, i = .int .i64 k ∧ k ≤ c.scope.length ∧ Hid (Bld b (l ++ nth [] wordsT 6 ++ linP 0 (c.args.take k) (c.scope.take k)) wr) ∧ Hid (Kep b (w.alloc (.cells #[.int .i64 6, .slice As c.scope.length cps, vr, .slice Aa c.args.length cpa] 43)) wr)) (fun i _ => c.scope.length - (intOf i).toNat)
  case atStart => exact ⟨0, rfl, by omega, Lib.hid (by simpa [linP] using HB2.out), HK2⟩
  case round =>
    obtain ⟨k, rfl, hk, HBk, HKk⟩ := hrel
    clear HB2 HK2
    obtain ⟨e0, e1, e2, e3⟩ := (Hbox.out.kep Hne.out (by decide) HKk.out).cells
    have hwr := Lib.hid HBk.out.lt
    by_cases hlt : k < c.scope.length
    · obtain ⟨b1, o1, rfl, g1⟩ := (Sl.elems (HS0.out.sl (by decide) H1.out HKk.out)).num hlt
      have hst := linP_step c.args c.scope k hlt (by omega)
      have hle := linP_take_le c.args c.scope (k + 1) (by omega) (by omega)
      have hb2 : (linP 0 (c.args.take k) (c.scope.take k)).length + (commaP k).length + (numsP [nth 0 c.args k, nth 0 c.scope k]).length ≤ (linP 0 c.args c.scope).length := by
        rw [hst, List.length_append, List.length_append] at hle; omega
      have Hst := Lib.hid hst
      have hft := Lib.hid (fits_two (Hr.out k (by omega)) (Hf.out k hlt))
      clear hst hle
      go_wp2_with (first
        | (go_at_call 64; refine (comma_any b _ k _ HBk.out (by omega) (by simp only [List.length_append]; omega)).mono ?_; rintro e W5 ⟨rfl, hB5, hk5⟩; (have HB5 := Lib.hid hB5); (have HK5 := Lib.hid (HKk.out.trans hk5)); (have hlt5 := Lib.hid hB5.lt); (obtain ⟨f0, f1, f2, f3⟩ := (Hbox.out.kep Hne.out (by decide) HK5.out).cells); (obtain ⟨b5, o5, he5, g5⟩ := (Sl.elems (HS0.out.sl (by decide) H3.out HK5.out)).num (j := k) (by omega)); subst he5; clear hB5 hk5 e0 e1 e2 e3)
        | (go_at_call 36; refine (numbers_any b _ _ [nth 0 c.args k, nth 0 c.scope k] (· = W5.heap.size) _ (HB5.out.move (below_alloc1 _ _)) ((HE0.out.below HK5.out.below hb8).below (below_alloc1 _ _) (by have := (HE0.out.below HK5.out.below hb8).size; exact this)) hb8 (lit_two W5 _ _) (stays_lit W5 _ hlt5.out) hft.out (by simp only [List.length_append]; omega)).mono ?_; rintro e W6 ⟨rfl, hB6, hk6⟩; (have HB6 := Lib.hid hB6); (have HK6 := Lib.hid (HK5.out.trans ((kep_alloc W5 _ (Nat.le_of_lt hlt5.out)).trans hk6))); clear hB6 hk6))
      go_roundw
      case rel => exact ⟨k + 1, by go_num, by omega, Lib.hid (by rw [Hst.out]; simpa only [List.append_assoc] using HB6.out), HK6⟩
      case measure => simp [intOf]; omega
    · have ek : k = c.scope.length := by omega
      have e' : linP 0 (c.args.take k) (c.scope.take k) = linP 0 c.args c.scope := by rw [ek, List.take_length, linP_all]
      rw [e'] at HBk
      clear ek e'
      obtain ⟨ba, oa, hea, ga⟩ := (Sl.elems (HS0.out.sl (by decide) H3.out HKk.out)).num (j := c.scope.length) (by omega)
      subst hea
      have hE1 := HE0.out.below HKk.out.below hb8
      have hhow := hE1.how (nth 0 c.args c.scope.length).toNat (by omega)
      have hq3 : nth 0 c.args c.scope.length < 3 := by omega
      have hlc : c.scope.length < c.args.length := by omega
      have hsh : (nth [] howsT (nth 0 c.args c.scope.length).toNat).length ≤ 2 := by
        have : ∀ k : Nat, k < 3 → (nth [] howsT k).length ≤ 2 := by decide
        exact this _ (by omega)
      have hdt : Hid ((ByteArray.mk #[58, 32] ++ ByteArray.mk (nth [] howsT (nth 0 c.args c.scope.length).toNat).toArray).data.toList = [58, 32] ++ nth [] howsT (nth 0 c.args c.scope.length).toNat) := Lib.hid (by simp)
      have hsz : Hid ((ByteArray.mk #[58, 32] ++ ByteArray.mk (nth [] howsT (nth 0 c.args c.scope.length).toNat).toArray).size = 2 + (nth [] howsT (nth 0 c.args c.scope.length).toNat).length) := Lib.hid (by rw [ByteArray.size_append, size_mk]; rfl)
      have HE1 := Lib.hid hE1
      have HWk := Lib.hid (writeString_any b _ (ByteArray.mk #[58, 32] ++ ByteArray.mk (nth [] howsT (nth 0 c.args c.scope.length).toNat).toArray) _ (HBk.out.move (Below.drew (Below.refl wr.heap.size wr))) (by rw [hsz.out]; simp only [List.length_append]; omega))
      clear hE1
      go_wp2
      go_region_with (first
        | (go_at_call 35; refine HWk.out.mono ?_; rintro e W7 ⟨rfl, hB7, hk7⟩; (rw [hdt.out] at hB7); (have HB7 := Lib.hid hB7); (have HK7 := Lib.hid (HKk.out.trans (Kep.trans ⟨Below.drew (Below.refl b _), (Lib.OthersKept.refl _ _ _).drew⟩ hk7))); (obtain ⟨f0, f1, f2, f3⟩ := (Hbox.out.kep Hne.out (by decide) HK7.out).cells); (have hlt7 := Lib.hid hB7.lt); (obtain ⟨b8, o8, he8, g8⟩ := (Sl.elems (HS0.out.sl (by decide) H3.out HK7.out)).num (j := c.scope.length + 1) (by omega)); (injection he8 with he8); (injection he8 with he81 he82); subst he81 he82; clear hB7 hk7))
      have hs0 : IntKind.i64.wrap ((c.scope.length:Int) + 1) = (c.scope.length:Int) + 1 := IntWalk.i64_in _ (by omega)
      have hs1 : ((c.scope.length:Int) + 1).toNat = c.scope.length + 1 := by omega
      have hft := Lib.hid (fits_one (Hr.out (c.scope.length + 1) (by omega)))
      clear HWk HBk HKk ga hhow e0 e1 e2 e3
      go_wp2_with (first
        | (go_at_call 36; refine (numbers_any b _ _ [nth 0 c.args (c.scope.length + 1)] (· = W7.heap.size) _ (HB7.out.move (below_alloc1 _ _)) ((HE0.out.below HK7.out.below hb8).below (below_alloc1 _ _) (by have := (HE0.out.below HK7.out.below hb8).size; exact this)) hb8 (lit_one W7 _) (stays_lit W7 _ hlt7.out) hft.out (by simp only [List.length_append, List.length_cons, List.length_nil]; omega)).mono ?_; rintro e W8 ⟨rfl, hB8, hk8⟩; (have HB8 := Lib.hid hB8); (have HK8 := Lib.hid (HK7.out.trans ((kep_alloc W7 _ (Nat.le_of_lt hlt7.out)).trans hk8))); clear hB8 hk8))
      refine bodyPost_ret (results_none rfl _ _ _) rfl ?_
      exact ⟨rfl, by rw [HP.out]; simpa only [List.append_assoc] using HB8.out, HK0.out.trans HK8.out⟩

end Go.Proofs.YtoahaigfjfeopaaGreatDoor

/- What the printer's soft writes. -/
namespace Go.Proofs.YtoahaigfjfeopaaGreatDoor
open Go.RowKit

set_option maxRecDepth 100000 in
set_option maxHeartbeats 1000000 in
theorem softw_any (b : Nat) (l : List UInt8) (vs vr vc : Value) (s : Sft) (ok : Nat → Prop) (w : World) (hB : Bld b l w) (hE : Env w) (hb8 : 8 ≤ b) (hS : Stays b w ok) (h1 : Sl (Kd.int .i64) w ok vs s.scope) (h2 : Sl kRow w ok vr s.rows) (h3 : Sl (Kd.int .i64) w ok vc s.costs)
    (hlc : s.rows.length = s.costs.length) (hf : Fits s.scope) (hr : ∀ k, k < s.rows.length → Fits (nth [] s.rows k)) (hcf : Fits s.costs) (hd : Fit s.dflt) (hlen : l.length + (softP s).length ≤ 140737488355328) :
    Calls Tryz.prog 38 #[.pointer (some ⟨b, 0, none⟩), .agg #[vs, vr, vc, .int .i64 s.dflt]] w fun e w' => e = .returned (.tuple #[]) ∧ Bld b (l ++ softP s) w' ∧ Kep b w w' := by
  have hP : softP s = softT ++ (numsP s.scope ++ ([58] ++ (numsP [s.dflt] ++ costsP s.rows s.costs))) := by unfold softP; simp only [List.append_assoc]
  have hbw : b < w.heap.size := hB.lt
  have h1' := h1
  obtain ⟨As, cps, rfl, hs1, hs2, _⟩ := h1
  have h2' := h2
  obtain ⟨Ar, cpr, rfl, hr1, hr2, _⟩ := h2
  have h3' := h3
  obtain ⟨Ac, cpc, rfl, hc1, hc2, _⟩ := h3
  have HB0 := below_alloc1 w (.cells #[.slice As s.scope.length cps, .slice Ar s.rows.length cpr, .slice Ac s.costs.length cpc, .int .i64 s.dflt] 47)
  have hbox0 : Box4 w.heap.size 47 (.slice As s.scope.length cps) (.slice Ar s.rows.length cpr) (.slice Ac s.costs.length cpc) (.int .i64 s.dflt) (w.alloc (.cells #[.slice As s.scope.length cps, .slice Ar s.rows.length cpr, .slice Ac s.costs.length cpc, .int .i64 s.dflt] 47)) := ⟨heap_alloc_new w _⟩
  have hl : l.length + 4 + (numsP s.scope).length + 1 + (numsP [s.dflt]).length + (costsP s.rows s.costs).length ≤ 140737488355328 := by
    rw [hP, List.length_append, List.length_append, List.length_append, List.length_append] at hlen
    simp only [softT, List.length_cons, List.length_nil] at hlen; omega
  have hsl : softT.length = 4 := rfl
  have HP := Lib.hid hP
  have HW := Lib.hid (writeString_any b l ⟨softT.toArray⟩ _ (hB.move HB0) (by rw [size_mk]; omega))
  have HS0 := Lib.hid (hS.below HB0)
  have H1 := Lib.hid (h1'.below (by decide) HB0)
  have H2 := Lib.hid (h2'.below (by decide) HB0)
  have H3 := Lib.hid (h3'.below (by decide) HB0)
  have HE0 := Lib.hid (hE.below HB0 hE.size)
  have HK0 := Lib.hid (kep_alloc (b := b) w (.cells #[.slice As s.scope.length cps, .slice Ar s.rows.length cpr, .slice Ac s.costs.length cpc, .int .i64 s.dflt] 47) (by omega))
  have Hf := Lib.hid hf
  have Hr := Lib.hid hr
  have Hcf := Lib.hid hcf
  have Hd := Lib.hid (fits_one hd)
  have Hlc := Lib.hid hlc
  have hlc1 : s.rows.length ≤ s.costs.length := by omega
  have Hsl := Lib.hid hsl
  have Hbox := Lib.hid hbox0
  have hne : w.heap.size ≠ b := by omega
  have Hne := Lib.hid hne
  clear hP hlen hB hS h1' h2' h3' hE hf hr hcf hd hlc hsl HB0 hbox0 hne
  go_enter Tryz.func38, Tryz.ntmps38
  go_wp2_with (first
    | (go_at_call 35; refine HW.out.mono ?_; rintro e W2 ⟨rfl, hB2, hk2⟩; (have HB2 := Lib.hid hB2); (have HK2 := Lib.hid hk2); (obtain ⟨c0, c1, c2, c3⟩ := (Hbox.out.kep Hne.out (by decide) HK2.out).cells); clear hB2 hk2))
  refine (numbers_any b _ _ s.scope ok _ HB2.out (HE0.out.below HK2.out.below hb8) hb8 (HS0.out.sl (by decide) H1.out HK2.out) (HS0.out.kep HK2.out) Hf.out (by simp only [List.length_append, Hsl.out]; omega)).mono ?_
  rintro e W3 ⟨rfl, hB3, hk3⟩
  have HB3 := Lib.hid hB3
  have HK3 := Lib.hid (HK2.out.trans hk3)
  obtain ⟨d0, d1, d2, d3⟩ := (Hbox.out.kep Hne.out (by decide) HK3.out).cells
  clear hB3 hk3 HB2 HK2 c0 c1 c2 c3 HW
  go_wp2_with fail
  refine (writeByte_any b _ 58 _ HB3.out (by simp only [List.length_append, Hsl.out]; omega)).mono ?_
  rintro e W4 ⟨rfl, hB4, hk4⟩
  have HB4 := Lib.hid hB4
  have HK4 := Lib.hid (HK3.out.trans hk4)
  have hlt4 := Lib.hid hB4.lt
  obtain ⟨c0, c1, c2, c3⟩ := (Hbox.out.kep Hne.out (by decide) HK4.out).cells
  clear hB4 hk4 HB3 HK3 d0 d1 d2 d3
  go_wp2_with fail
  refine (numbers_any b _ _ [s.dflt] (· = W4.heap.size) _ (HB4.out.move (below_alloc1 _ _)) ((HE0.out.below HK4.out.below hb8).below (below_alloc1 _ _) (HE0.out.below HK4.out.below hb8).size) hb8 (lit_one W4 _) (stays_lit W4 _ hlt4.out) Hd.out (by simp only [List.length_append, List.length_cons, List.length_nil, Hsl.out]; omega)).mono ?_
  rintro e W5 ⟨rfl, hB5, hk5⟩
  have HB5 := Lib.hid hB5
  have HK5 := Lib.hid (HK4.out.trans ((kep_alloc W4 _ (Nat.le_of_lt hlt4.out)).trans hk5))
  obtain ⟨d0, d1, d2, d3⟩ := (Hbox.out.kep Hne.out (by decide) HK5.out).cells
  clear hB5 hk5 HB4 HK4 c0 c1 c2 c3
  go_wp2
  clear d0 d1 d2 d3
  go_loopw [26] (fun i wr => ∃ k : Nat, i = .int .i64 k ∧ k ≤ s.rows.length ∧ Hid (Bld b (l ++ softT ++ numsP s.scope ++ [58] ++ numsP [s.dflt] ++ costsP (s.rows.take k) (s.costs.take k)) wr) ∧ Hid (Kep b (w.alloc (.cells #[.slice As s.scope.length cps, .slice Ar s.rows.length cpr, .slice Ac s.costs.length cpc, .int .i64 s.dflt] 47)) wr)) (fun i _ => s.rows.length - (intOf i).toNat)
  case atStart => exact ⟨0, rfl, by omega, Lib.hid (by simpa [costsP] using HB5.out), HK5⟩
  case round =>
    obtain ⟨k, rfl, hk, HBk, HKk⟩ := hrel
    clear HB5 HK5
    by_cases hlt : k < s.rows.length
    · obtain ⟨b1, o1, vt, rfl, g1, ht⟩ := (Sl.elems (HS0.out.sl (by decide) H2.out HKk.out)).row hlt
      have HT := Lib.hid ht
      obtain ⟨At, ct, rfl, ht1, ht2, _⟩ := ht
      have hst := costsP_step s.rows s.costs k hlt Hlc.out
      have hle := costsP_take_le s.rows s.costs (k + 1) Hlc.out
      have hb2 : (costsP (s.rows.take k) (s.costs.take k)).length + 1 + (numsP (nth [] s.rows k)).length + (numsP [nth 0 s.costs k]).length ≤ (costsP s.rows s.costs).length := by
        rw [hst, List.length_append, List.length_append, List.length_append] at hle; simp only [List.length_cons, List.length_nil] at hle; omega
      have Hst := Lib.hid hst
      have hft := Lib.hid (fits_one (Hcf.out k (by omega)))
      clear hst hle
      go_wp2_with fail
      refine (writeByte_any b _ 44 _ HBk.out (by simp only [List.length_append, List.length_cons, List.length_nil, Hsl.out]; omega)).mono ?_
      rintro e W6 ⟨rfl, hB6, hk6⟩
      have HB6 := Lib.hid hB6
      have HK6 := Lib.hid (HKk.out.trans hk6)
      have HKt := Lib.hid hk6
      clear hB6 hk6
      go_wp2_with fail
      refine (numbers_any b _ _ (nth [] s.rows k) ok _ HB6.out (HE0.out.below HK6.out.below hb8) hb8 ((HS0.out.kep HKk.out).sl (by decide) HT.out HKt.out) (HS0.out.kep HK6.out) (Hr.out k hlt) (by simp only [List.length_append, List.length_cons, List.length_nil, Hsl.out]; omega)).mono ?_
      rintro e W7 ⟨rfl, hB7, hk7⟩
      have HB7 := Lib.hid hB7
      have HK7 := Lib.hid (HK6.out.trans hk7)
      have hlt7 := Lib.hid hB7.lt
      obtain ⟨d0, d1, d2, d3⟩ := (Hbox.out.kep Hne.out (by decide) HK7.out).cells
      obtain ⟨b8, o8, he8, g8⟩ := (Sl.elems (HS0.out.sl (by decide) H3.out HK7.out)).num (j := k) (by omega)
      subst he8
      clear hB7 hk7 HB6 HK6 HT HKt
      go_wp2_with fail
      refine (numbers_any b _ _ [nth 0 s.costs k] (· = W7.heap.size) _ (HB7.out.move (below_alloc1 _ _)) ((HE0.out.below HK7.out.below hb8).below (below_alloc1 _ _) (HE0.out.below HK7.out.below hb8).size) hb8 (lit_one W7 _) (stays_lit W7 _ hlt7.out) hft.out (by simp only [List.length_append, List.length_cons, List.length_nil, Hsl.out]; omega)).mono ?_
      rintro e W8 ⟨rfl, hB8, hk8⟩
      have HB8 := Lib.hid hB8
      have HK8 := Lib.hid (HK7.out.trans ((kep_alloc W7 _ (Nat.le_of_lt hlt7.out)).trans hk8))
      clear hB8 hk8 d0 d1 d2 d3 g8
      go_wp2
      go_roundw
      case rel => exact ⟨k + 1, by go_num, by omega, Lib.hid (by rw [Hst.out]; simpa only [List.append_assoc] using HB8.out), HK8⟩
      case measure => simp [intOf]; omega
    · go_wp2
      go_end0
      have e : s.rows.take k = s.rows := List.take_of_length_le (by omega)
      have e' : s.costs.take k = s.costs := List.take_of_length_le (by have := Hlc.out; omega)
      rw [e, e'] at HBk
      exact ⟨rfl, by rw [HP.out]; simpa only [List.append_assoc] using HBk.out, HK0.out.trans HKk.out⟩
end Go.Proofs.YtoahaigfjfeopaaGreatDoor

/- What inst.soft and Right compute: with functions handed to slices.ContainsFunc. -/
namespace Go.Proofs.YtoahaigfjfeopaaGreatDoor
open Go.RowKit

def findFrom {α : Type} (p : α → Bool) : Nat → List α → Int
  | _, [] => -1
  | i, a :: r => if p a = true then i else findFrom p (i + 1) r
theorem findFrom_ge {α : Type} (p : α → Bool) : ∀ (l : List α) (i : Nat), decide (0 ≤ findFrom p i l) = l.any p
  | [], i => by simp [findFrom]
  | a :: r, i => by
    unfold findFrom
    cases h : p a
    · simp [h, findFrom_ge p r (i + 1)]
    · simp [h]
theorem findFrom_drop {α : Type} (p : α → Bool) (z : α) (xs : List α) (k : Nat) (h : k < xs.length) : findFrom p k (xs.drop k) = if p (nth z xs k) = true then (k : Int) else findFrom p (k + 1) (xs.drop (k + 1)) := by
  rw [drop_cons xs z k h, findFrom]

theorem wide_any (n : Int) (w : World) : Calls Tryz.prog 59 #[.int .i64 n] w fun e w' => e = .returned (.bool (!smallB n 1000000000000)) ∧ w = w' := by
  go_enter Tryz.func59, Tryz.ntmps59
  go_wp2_with (go_at_call 60; refine (small64_any _ _ _ (by omega) (by omega)).mono ?_; rintro e w' ⟨rfl, rfl⟩)
  go_ret
  exact ⟨rfl, rfl⟩
theorem indexWide_any (v : Value) (xs : List Int) (ok : Nat → Prop) (w : World) (h1 : Sl (Kd.int .i64) w ok v xs) :
    Calls Tryz.prog 91 #[v, .func (.func 59) #[] #[]] w fun e w' => e = .returned (.int .i64 (findFrom (fun n => !smallB n 1000000000000) 0 xs)) ∧ w = w' := by
  obtain ⟨A, c, rfl, hc, hm, hA⟩ := h1
  go_enter Tryz.func91, Tryz.ntmps91
  go_wp2
  go_loop [8] (fun i => ∃ k : Nat, i = .int .i64 k ∧ k ≤ xs.length ∧ Hid (findFrom (fun n => !smallB n 1000000000000) 0 xs = findFrom (fun n => !smallB n 1000000000000) k (xs.drop k))) (fun i => xs.length - (intOf i).toNat)
  case atStart => exact ⟨0, rfl, by omega, Lib.hid rfl⟩
  case round =>
    obtain ⟨k, rfl, hk, H⟩ := hrel
    by_cases hlt : k < xs.length
    · obtain ⟨b, o, rfl, hcell⟩ := hA.num hlt
      have H' := Lib.hid (findFrom_drop (fun n => !smallB n 1000000000000) 0 xs k hlt)
      clear hA
      cases hs : smallB (nth 0 xs k) 1000000000000
      · go_wp2_with (go_at_call 59; refine (wide_any _ _).mono ?_; rintro e w' ⟨rfl, rfl⟩)
        go_ret
        exact ⟨ret_int (by rw [H.out, H'.out, hs]; simp), rfl⟩
      · go_wp2_with (go_at_call 59; refine (wide_any _ _).mono ?_; rintro e w' ⟨rfl, rfl⟩)
        go_round
        case rel => exact ⟨k + 1, by go_num, by omega, Lib.hid (by rw [H.out, H'.out, hs]; simp)⟩
        case measure => simp [intOf]; omega
    · go_wp2
      go_ret
      refine ⟨ret_int ?_, rfl⟩
      rw [H.out, List.drop_eq_nil_of_le (by omega)]; rfl
theorem anyWide_any (v : Value) (xs : List Int) (ok : Nat → Prop) (w : World) (h1 : Sl (Kd.int .i64) w ok v xs) :
    Calls Tryz.prog 61 #[v, .func (.func 59) #[] #[]] w fun e w' => e = .returned (.bool (wideAny xs)) ∧ w = w' := by
  have hx := Lib.hid (findFrom_ge (fun n => !smallB n 1000000000000) xs 0)
  go_enter Tryz.func61, Tryz.ntmps61
  go_wp2_with (go_at_call 91; refine (indexWide_any _ _ _ _ h1).mono ?_; rintro e w' ⟨rfl, rfl⟩)
  go_ret
  exact ⟨ret_bool hx.out, rfl⟩

set_option maxRecDepth 100000 in
theorem soft_any (vD vH vS vs vr vc : Value) (x : Ins) (s : Sft) (ok : Nat → Prop) (w : World) (hD : Sl kRow w ok vD x.doms) (h1 : Sl (Kd.int .i64) w ok vs s.scope) (h2 : Sl kRow w ok vr s.rows) (h3 : Sl (Kd.int .i64) w ok vc s.costs) :
    Calls Tryz.prog 34 #[.agg #[vD, vH, vS], .agg #[vs, vr, vc, .int .i64 s.dflt]] w fun e w' => e = .returned (.bool (softB x s)) ∧ Below w.heap.size w w' := by
  obtain ⟨AD, cD, rfl, hcD, hmD, hAD⟩ := hD
  obtain ⟨As, cs, rfl, hcs, hms, hAs⟩ := h1
  obtain ⟨Ar, cr, rfl, hcr, hmr, hAr⟩ := h2
  obtain ⟨Aa, ca, rfl, hca, hma, hAa⟩ := h3
  have HB0 := (below_alloc1 w (.cells #[.slice AD x.doms.length cD, vH, vS] 26)).alloc (by simp) (.cells #[.slice As s.scope.length cs, .slice Ar s.rows.length cr, .slice Aa s.costs.length ca, .int .i64 s.dflt] 47)
  have HD := Sl.below (v := .slice AD x.doms.length cD) (xs := x.doms) (by decide) ⟨AD, cD, rfl, hcD, hmD, hAD⟩ HB0
  have HS := Sl.below (v := .slice As s.scope.length cs) (xs := s.scope) (by decide) ⟨As, cs, rfl, hcs, hms, hAs⟩ HB0
  have HR := Sl.below (v := .slice Ar s.rows.length cr) (xs := s.rows) (by decide) ⟨Ar, cr, rfl, hcr, hmr, hAr⟩ HB0
  have HC := Sl.below (v := .slice Aa s.costs.length ca) (xs := s.costs) (by decide) ⟨Aa, ca, rfl, hca, hma, hAa⟩ HB0
  clear hAD hAs hAr hAa
  have HB := Lib.hid HB0
  clear HB0
  have hsc' := Lib.hid (scope_any _ vH vS _ _ _ ok _ HD HS)
  cases hq : wideAny s.costs
  all_goals
    go_enter Tryz.func34, Tryz.ntmps34
    go_wp2_with (first
      | (go_at_call 55; refine (hsc'.out).mono ?_; rintro e w' ⟨rfl, hb⟩; (obtain ⟨hc, hb'⟩ : (∀ b o, _ → _) ∧ Hid _ := ⟨bcell hb, Lib.hid hb⟩); clear hb)
      | (go_at_call 59; refine (wide_any _ _).mono ?_; rintro e w' ⟨rfl, rfl⟩)
      | (go_at_call 61; refine (anyWide_any _ _ _ _ (HC.below (by decide) hb'.out)).mono ?_; rintro e w' ⟨rfl, rfl⟩; rw [hq])
      | (go_at_call 57; refine (rows_any _ _ _ _ _ _ _ _ _ _ (HD.below (by decide) hb'.out) (HS.below (by decide) hb'.out) (HR.below (by decide) hb'.out) (scopeB_bounds (by assumption))).mono ?_; rintro e w'' ⟨rfl, hb⟩; have hb2 := Lib.hid hb; clear hb))
  all_goals go_ret
  all_goals refine ⟨ret_bool ?_, by first | exact below_next (below_next HB.out hb'.out) hb2.out | exact below_next HB.out hb'.out⟩
  all_goals clear hc hsc' HD HS HR HC HB hb'
  all_goals try clear hb2
  all_goals unfold softB
  all_goals rw [hq]
  all_goals clear hq
  all_goals by_cases e2 : s.costs.length = s.rows.length
  all_goals try (simp [*]; done)
  all_goals (exfalso; omega)
end Go.Proofs.YtoahaigfjfeopaaGreatDoor

/- inst.Right: its closures, slices.IndexFunc and ContainsFunc over them. -/
namespace Go.Proofs.YtoahaigfjfeopaaGreatDoor
open Go.RowKit

theorem right1_any (v : Value) (d : List Int) (ok : Nat → Prop) (w : World) (h : Sl (Kd.int .i64) w ok v d) :
    Calls Tryz.prog 27 #[v] w fun e w' => e = .returned (.bool (!domainB d)) ∧ Below w.heap.size w w' := by
  go_enter Tryz.func27, Tryz.ntmps27
  go_wp2_with (go_at_call 28; refine (domain_any _ _ _ _ h).mono ?_; rintro e w' ⟨rfl, nd, rfl⟩)
  go_ret
  exact ⟨rfl, below_drewN (Below.refl _ _) _⟩

set_option maxRecDepth 100000 in
theorem right2_any (vD vH vS vs vr va : Value) (x : Ins) (c : Con) (ok : Nat → Prop) (w : World) (hD : Sl kRow w ok vD x.doms) (h1 : Sl (Kd.int .i64) w ok vs c.scope) (h2 : Sl kRow w ok vr c.rows) (h3 : Sl (Kd.int .i64) w ok va c.args)
    (g : Nat) (hg : w.heap[g]? = some (.cells #[vD, vH, vS] 26 (0, 0))) :
    Calls Tryz.prog 30 #[.agg #[.int .i64 c.kind, vs, vr, va], .pointer (some ⟨g, 0, none⟩)] w fun e w' => e = .returned (.bool (!hardB x c)) ∧ Below w.heap.size w w' := by
  have HB := below_alloc1 w (.cells #[.int .i64 c.kind, vs, vr, va] 43)
  have g0 := cell_kept HB (cell_at hg (i := 0) (u := vD) rfl)
  have g1 := cell_kept HB (cell_at hg (i := 1) (u := vH) rfl)
  have g2 := cell_kept HB (cell_at hg (i := 2) (u := vS) rfl)
  have hcall := Lib.hid (hard_any _ vH vS _ _ _ x c ok _ (hD.below (by decide) HB) (h1.below (by decide) HB) (h2.below (by decide) HB) (h3.below (by decide) HB))
  clear hD h1 h2 h3 hg
  have HB' := Lib.hid HB
  clear HB
  go_enter Tryz.func30, Tryz.ntmps30
  go_wp2_with (go_at_call 31; refine hcall.out.mono ?_; rintro e w' ⟨rfl, hb⟩; have hb' := Lib.hid hb; clear hb)
  go_ret
  exact ⟨rfl, below_next HB'.out hb'.out⟩

set_option maxRecDepth 100000 in
theorem right3_any (vD vH vS vs vr vc : Value) (x : Ins) (s : Sft) (ok : Nat → Prop) (w : World) (hD : Sl kRow w ok vD x.doms) (h1 : Sl (Kd.int .i64) w ok vs s.scope) (h2 : Sl kRow w ok vr s.rows) (h3 : Sl (Kd.int .i64) w ok vc s.costs)
    (g : Nat) (hg : w.heap[g]? = some (.cells #[vD, vH, vS] 26 (0, 0))) :
    Calls Tryz.prog 33 #[.agg #[vs, vr, vc, .int .i64 s.dflt], .pointer (some ⟨g, 0, none⟩)] w fun e w' => e = .returned (.bool (!softB x s)) ∧ Below w.heap.size w w' := by
  have HB := below_alloc1 w (.cells #[vs, vr, vc, .int .i64 s.dflt] 47)
  have g0 := cell_kept HB (cell_at hg (i := 0) (u := vD) rfl)
  have g1 := cell_kept HB (cell_at hg (i := 1) (u := vH) rfl)
  have g2 := cell_kept HB (cell_at hg (i := 2) (u := vS) rfl)
  have hcall := Lib.hid (soft_any _ vH vS _ _ _ x s ok _ (hD.below (by decide) HB) (h1.below (by decide) HB) (h2.below (by decide) HB) (h3.below (by decide) HB))
  clear hD h1 h2 h3 hg
  have HB' := Lib.hid HB
  clear HB
  go_enter Tryz.func33, Tryz.ntmps33
  go_wp2_with (go_at_call 34; refine hcall.out.mono ?_; rintro e w' ⟨rfl, hb⟩; have hb' := Lib.hid hb; clear hb)
  go_ret
  exact ⟨rfl, below_next HB'.out hb'.out⟩
end Go.Proofs.YtoahaigfjfeopaaGreatDoor

/- slices.IndexFunc and ContainsFunc over inst.Right's closures; inst.Right. -/
namespace Go.Proofs.YtoahaigfjfeopaaGreatDoor
open Go.RowKit

set_option maxRecDepth 100000 in
theorem index1_any (v : Value) (xs : List (List Int)) (ok : Nat → Prop) (w : World) (h1 : Sl kRow w ok v xs) :
    Calls Tryz.prog 51 #[v, .func (.func 27) #[] #[]] w fun e w' => e = .returned (.int .i64 (findFrom (fun d => !domainB d) 0 xs)) ∧ Below w.heap.size w w' := by
  have H1 := h1
  obtain ⟨A, c, rfl, hc, hm, hA⟩ := h1
  clear hA
  go_enter Tryz.func51, Tryz.ntmps51
  go_wp2
  go_loopw [8] (fun i wr => ∃ k : Nat, i = .int .i64 k ∧ k ≤ xs.length ∧ Hid (findFrom (fun d => !domainB d) 0 xs = findFrom (fun d => !domainB d) k (xs.drop k)) ∧ Hid (Below w.heap.size w wr)) (fun i _ => xs.length - (intOf i).toNat)
  case atStart => exact ⟨0, rfl, by omega, Lib.hid rfl, Lib.hid (Below.refl _ _)⟩
  case round =>
    obtain ⟨k, rfl, hk, H, HB⟩ := hrel
    by_cases hlt : k < xs.length
    · obtain ⟨b, o, vt, rfl, c1, ht⟩ := (Sl.elems (H1.below (by decide) HB.out)).row hlt
      have H' := Lib.hid (findFrom_drop (fun d => !domainB d) [] xs k hlt)
      clear H1
      cases hs : domainB (nth [] xs k)
      · go_wp2_with (go_at_call 27; refine (right1_any _ _ _ _ ht).mono ?_; rintro e w' ⟨rfl, hb⟩; have hb' := Lib.hid hb; clear hb)
        go_ret
        exact ⟨ret_int (by rw [H.out, H'.out, hs]; simp), below_next HB.out hb'.out⟩
      · go_wp2_with (go_at_call 27; refine (right1_any _ _ _ _ ht).mono ?_; rintro e w' ⟨rfl, hb⟩; have hb' := Lib.hid hb; clear hb)
        go_roundw
        case rel => exact ⟨k + 1, by go_num, by omega, Lib.hid (by rw [H.out, H'.out, hs]; simp), Lib.hid (below_next HB.out hb'.out)⟩
        case measure => simp [intOf]; omega
    · go_wp2
      go_ret
      refine ⟨ret_int ?_, HB.out⟩
      rw [H.out, List.drop_eq_nil_of_le (by omega)]; rfl
theorem contains1_any (v : Value) (xs : List (List Int)) (ok : Nat → Prop) (w : World) (h1 : Sl kRow w ok v xs) :
    Calls Tryz.prog 26 #[v, .func (.func 27) #[] #[]] w fun e w' => e = .returned (.bool (xs.any (fun d => !domainB d))) ∧ Below w.heap.size w w' := by
  have hx := Lib.hid (findFrom_ge (fun d => !domainB d) xs 0)
  go_enter Tryz.func26, Tryz.ntmps26
  go_wp2_with (go_at_call 51; refine (index1_any _ _ _ _ h1).mono ?_; rintro e w' ⟨rfl, hb⟩; have hb' := Lib.hid hb; clear hb)
  go_ret
  exact ⟨ret_bool hx.out, hb'.out⟩

set_option maxRecDepth 100000 in
theorem index2_any (vD vH vS v : Value) (x : Ins) (xs : List Con) (ok : Nat → Prop) (w : World) (hD : Sl kRow w ok vD x.doms) (h1 : Sl kCon w ok v xs) (g : Nat) (hg : w.heap[g]? = some (.cells #[vD, vH, vS] 26 (0, 0))) :
    Calls Tryz.prog 54 #[v, .func (.func 30) #[] #[.pointer (some ⟨g, 0, none⟩)]] w fun e w' => e = .returned (.int .i64 (findFrom (fun c => !hardB x c) 0 xs)) ∧ Below w.heap.size w w' := by
  have H1 := h1
  have HD := hD
  have HG := Lib.hid hg
  obtain ⟨A, c, rfl, hc, hm, hA⟩ := h1
  clear hA hD hg
  go_enter Tryz.func54, Tryz.ntmps54
  go_wp2
  go_loopw [8] (fun i wr => ∃ k : Nat, i = .int .i64 k ∧ k ≤ xs.length ∧ Hid (findFrom (fun c => !hardB x c) 0 xs = findFrom (fun c => !hardB x c) k (xs.drop k)) ∧ Hid (Below w.heap.size w wr)) (fun i _ => xs.length - (intOf i).toNat)
  case atStart => exact ⟨0, rfl, by omega, Lib.hid rfl, Lib.hid (Below.refl _ _)⟩
  case round =>
    obtain ⟨k, rfl, hk, H, HB⟩ := hrel
    by_cases hlt : k < xs.length
    · obtain ⟨b, o, cs, rfl, _, hK, hcell⟩ := (Sl.elems (H1.below (by decide) HB.out)) k (nth default xs k) (nth_get default xs k hlt)
      obtain ⟨vs, vr, va, rfl, e1, e2, e3⟩ := kCon_cells hK
      have f0 := hcell 0 _ rfl
      have f1 := hcell 1 _ rfl
      have f2 := hcell 2 _ rfl
      have f3 := hcell 3 _ rfl
      simp only [show kCon.sz = 4 from rfl, Nat.add_zero, ← Nat.add_assoc] at f0 f1 f2 f3
      clear hcell hK
      have H' := Lib.hid (findFrom_drop (fun c => !hardB x c) default xs k hlt)
      have HD' := HD.below (by decide) HB.out
      have HG' := Lib.hid (block_kept HB.out HG.out)
      clear H1 HD HG
      cases hs : hardB x (nth default xs k)
      · go_wp2_with (go_at_call 30; refine (right2_any _ vH vS _ _ _ x _ ok _ HD' e1 e2 e3 g HG'.out).mono ?_; rintro e w' ⟨rfl, hb⟩; have hb' := Lib.hid hb; clear hb)
        go_ret
        exact ⟨ret_int (by rw [H.out, H'.out, hs]; simp), below_next HB.out hb'.out⟩
      · go_wp2_with (go_at_call 30; refine (right2_any _ vH vS _ _ _ x _ ok _ HD' e1 e2 e3 g HG'.out).mono ?_; rintro e w' ⟨rfl, hb⟩; have hb' := Lib.hid hb; clear hb)
        go_roundw
        case rel => exact ⟨k + 1, by go_num, by omega, Lib.hid (by rw [H.out, H'.out, hs]; simp), Lib.hid (below_next HB.out hb'.out)⟩
        case measure => simp [intOf]; omega
    · go_wp2
      go_ret
      refine ⟨ret_int ?_, HB.out⟩
      rw [H.out, List.drop_eq_nil_of_le (by omega)]; rfl
theorem contains2_any (vD vH vS v : Value) (x : Ins) (xs : List Con) (ok : Nat → Prop) (w : World) (hD : Sl kRow w ok vD x.doms) (h1 : Sl kCon w ok v xs) (g : Nat) (hg : w.heap[g]? = some (.cells #[vD, vH, vS] 26 (0, 0))) :
    Calls Tryz.prog 29 #[v, .func (.func 30) #[] #[.pointer (some ⟨g, 0, none⟩)]] w fun e w' => e = .returned (.bool (xs.any (fun c => !hardB x c))) ∧ Below w.heap.size w w' := by
  have hx := Lib.hid (findFrom_ge (fun c => !hardB x c) xs 0)
  have hc := Lib.hid (index2_any vD vH vS v x xs ok w hD h1 g hg)
  clear hD h1 hg
  go_enter Tryz.func29, Tryz.ntmps29
  go_wp2_with (go_at_call 54; refine hc.out.mono ?_; rintro e w' ⟨rfl, hb⟩; have hb' := Lib.hid hb; clear hb)
  go_ret
  exact ⟨ret_bool hx.out, hb'.out⟩

set_option maxRecDepth 100000 in
theorem index3_any (vD vH vS v : Value) (x : Ins) (xs : List Sft) (ok : Nat → Prop) (w : World) (hD : Sl kRow w ok vD x.doms) (h1 : Sl kSft w ok v xs) (g : Nat) (hg : w.heap[g]? = some (.cells #[vD, vH, vS] 26 (0, 0))) :
    Calls Tryz.prog 58 #[v, .func (.func 33) #[] #[.pointer (some ⟨g, 0, none⟩)]] w fun e w' => e = .returned (.int .i64 (findFrom (fun c => !softB x c) 0 xs)) ∧ Below w.heap.size w w' := by
  have H1 := h1
  have HD := hD
  have HG := Lib.hid hg
  obtain ⟨A, c, rfl, hc, hm, hA⟩ := h1
  clear hA hD hg
  go_enter Tryz.func58, Tryz.ntmps58
  go_wp2
  go_loopw [8] (fun i wr => ∃ k : Nat, i = .int .i64 k ∧ k ≤ xs.length ∧ Hid (findFrom (fun c => !softB x c) 0 xs = findFrom (fun c => !softB x c) k (xs.drop k)) ∧ Hid (Below w.heap.size w wr)) (fun i _ => xs.length - (intOf i).toNat)
  case atStart => exact ⟨0, rfl, by omega, Lib.hid rfl, Lib.hid (Below.refl _ _)⟩
  case round =>
    obtain ⟨k, rfl, hk, H, HB⟩ := hrel
    by_cases hlt : k < xs.length
    · obtain ⟨b, o, cs, rfl, _, hK, hcell⟩ := (Sl.elems (H1.below (by decide) HB.out)) k (nth default xs k) (nth_get default xs k hlt)
      obtain ⟨vs, vr, vc, rfl, e1, e2, e3⟩ := kSft_cells hK
      have f0 := hcell 0 _ rfl
      have f1 := hcell 1 _ rfl
      have f2 := hcell 2 _ rfl
      have f3 := hcell 3 _ rfl
      simp only [show kSft.sz = 4 from rfl, Nat.add_zero, ← Nat.add_assoc] at f0 f1 f2 f3
      clear hcell hK
      have H' := Lib.hid (findFrom_drop (fun c => !softB x c) default xs k hlt)
      have HD' := HD.below (by decide) HB.out
      have HG' := Lib.hid (block_kept HB.out HG.out)
      clear H1 HD HG
      cases hs : softB x (nth default xs k)
      · go_wp2_with (go_at_call 33; refine (right3_any _ vH vS _ _ _ x _ ok _ HD' e1 e2 e3 g HG'.out).mono ?_; rintro e w' ⟨rfl, hb⟩; have hb' := Lib.hid hb; clear hb)
        go_ret
        exact ⟨ret_int (by rw [H.out, H'.out, hs]; simp), below_next HB.out hb'.out⟩
      · go_wp2_with (go_at_call 33; refine (right3_any _ vH vS _ _ _ x _ ok _ HD' e1 e2 e3 g HG'.out).mono ?_; rintro e w' ⟨rfl, hb⟩; have hb' := Lib.hid hb; clear hb)
        go_roundw
        case rel => exact ⟨k + 1, by go_num, by omega, Lib.hid (by rw [H.out, H'.out, hs]; simp), Lib.hid (below_next HB.out hb'.out)⟩
        case measure => simp [intOf]; omega
    · go_wp2
      go_ret
      refine ⟨ret_int ?_, HB.out⟩
      rw [H.out, List.drop_eq_nil_of_le (by omega)]; rfl
theorem contains3_any (vD vH vS v : Value) (x : Ins) (xs : List Sft) (ok : Nat → Prop) (w : World) (hD : Sl kRow w ok vD x.doms) (h1 : Sl kSft w ok v xs) (g : Nat) (hg : w.heap[g]? = some (.cells #[vD, vH, vS] 26 (0, 0))) :
    Calls Tryz.prog 32 #[v, .func (.func 33) #[] #[.pointer (some ⟨g, 0, none⟩)]] w fun e w' => e = .returned (.bool (xs.any (fun c => !softB x c))) ∧ Below w.heap.size w w' := by
  have hx := Lib.hid (findFrom_ge (fun c => !softB x c) xs 0)
  have hc := Lib.hid (index3_any vD vH vS v x xs ok w hD h1 g hg)
  clear hD h1 hg
  go_enter Tryz.func32, Tryz.ntmps32
  go_wp2_with (go_at_call 58; refine hc.out.mono ?_; rintro e w' ⟨rfl, hb⟩; have hb' := Lib.hid hb; clear hb)
  go_ret
  exact ⟨ret_bool hx.out, hb'.out⟩

set_option maxRecDepth 100000 in
theorem right_any (vD vH vS : Value) (x : Ins) (ok : Nat → Prop) (w : World) (hD : Sl kRow w ok vD x.doms) (hH : Sl kCon w ok vH x.hard) (hS : Sl kSft w ok vS x.soft) :
    Calls Tryz.prog 14 #[.agg #[vD, vH, vS]] w fun e w' => e = .returned (.bool (rightB x)) ∧ Below w.heap.size w w' := by
  obtain ⟨AD, cD, rfl, hcD, hmD, hAD⟩ := hD
  obtain ⟨AH, cH, rfl, hcH, hmH, hAH⟩ := hH
  obtain ⟨AS, cS, rfl, hcS, hmS, hAS⟩ := hS
  have HB := Lib.hid (below_alloc1 w (.cells #[.slice AD x.doms.length cD, .slice AH x.hard.length cH, .slice AS x.soft.length cS] 26))
  have HD := Sl.below (v := .slice AD x.doms.length cD) (xs := x.doms) (by decide) ⟨AD, cD, rfl, hcD, hmD, hAD⟩ HB.out
  have HH := Sl.below (v := .slice AH x.hard.length cH) (xs := x.hard) (by decide) ⟨AH, cH, rfl, hcH, hmH, hAH⟩ HB.out
  have HS := Sl.below (v := .slice AS x.soft.length cS) (xs := x.soft) (by decide) ⟨AS, cS, rfl, hcS, hmS, hAS⟩ HB.out
  have hg : (w.alloc (.cells #[.slice AD x.doms.length cD, .slice AH x.hard.length cH, .slice AS x.soft.length cS] 26)).heap[w.heap.size]? = some (.cells #[.slice AD x.doms.length cD, .slice AH x.hard.length cH, .slice AS x.soft.length cS] 26 (0, 0)) := heap_alloc_new w _
  have HG := Lib.hid hg
  clear hg hAD hAH hAS
  obtain ⟨q1, hq1⟩ : ∃ q, (x.doms.any fun d => !domainB d) = q := ⟨_, rfl⟩
  obtain ⟨q2, hq2⟩ : ∃ q, (x.hard.any fun c => !hardB x c) = q := ⟨_, rfl⟩
  obtain ⟨q3, hq3⟩ : ∃ q, (x.soft.any fun c => !softB x c) = q := ⟨_, rfl⟩
  have hr : Hid (rightB x = (decide (x.doms.length ≤ 40) && decide (x.hard.length ≤ 200) && decide (x.soft.length ≤ 200) && !q1 && !q2 && !q3)) := by
    apply Lib.hid
    unfold rightB
    rw [List.all_eq_not_any_not, List.all_eq_not_any_not, List.all_eq_not_any_not, hq1, hq2, hq3]
  have hc1 := Lib.hid (contains1_any _ _ ok _ HD)
  rw [hq1] at hc1
  have hc2 := fun W (hb : Below _ _ W) => contains2_any _ _ _ _ x x.hard ok W (HD.below (by decide) hb) (HH.below (by decide) hb) _ (block_kept hb HG.out)
  have hc3 := fun W (hb : Below _ _ W) => contains3_any _ _ _ _ x x.soft ok W (HD.below (by decide) hb) (HS.below (by decide) hb) _ (block_kept hb HG.out)
  rw [hq2] at hc2
  rw [hq3] at hc3
  have Hc2 := Lib.hid hc2
  have Hc3 := Lib.hid hc3
  clear hc2 hc3 hq1 hq2 hq3 HD HH HS
  go_enter Tryz.func14, Tryz.ntmps14
  go_wp2_with (first
    | (go_at_call 26; refine hc1.out.mono ?_; rintro e w' ⟨rfl, hb⟩; (obtain ⟨hc, hb1⟩ : (∀ b o, _ → _) ∧ Hid _ := ⟨bcell hb, Lib.hid hb⟩); clear hb)
    | (go_at_call 29; refine (Hc2.out _ hb1.out).mono ?_; rintro e w' ⟨rfl, hb⟩; (obtain ⟨hc', hb2⟩ : (∀ b o, _ → _) ∧ Hid _ := ⟨bcell (below_next hb1.out hb), Lib.hid (below_next hb1.out hb)⟩); clear hb hc hb1)
    | (go_at_call 32; refine (Hc3.out _ hb2.out).mono ?_; rintro e w' ⟨rfl, hb⟩; (obtain ⟨hc, hb1⟩ : (∀ b o, _ → _) ∧ Hid _ := ⟨bcell (below_next hb2.out hb), Lib.hid (below_next hb2.out hb)⟩); clear hb hc' hb2))
  all_goals go_ret
  all_goals refine ⟨ret_bool ?_, by first | exact below_next HB.out hb1.out | exact below_next HB.out hb2.out | exact HB.out⟩
  all_goals rw [hr.out]
  all_goals try (simp [*]; done)
  all_goals by_cases e1 : x.doms.length ≤ 40
  all_goals by_cases e2 : x.hard.length ≤ 200
  all_goals by_cases e3 : x.soft.length ≤ 200
  all_goals try (exfalso; omega)
  all_goals try (simp [*]; done)
  all_goals go_ways
end Go.Proofs.YtoahaigfjfeopaaGreatDoor

/- inst.Print. -/
namespace Go.Proofs.YtoahaigfjfeopaaGreatDoor
open Go.RowKit

theorem hardw_any (b : Nat) (l : List UInt8) (vs vr va : Value) (x : Ins) (c : Con) (ok : Nat → Prop) (w : World) (hB : Bld b l w) (hE : Env w) (hb8 : 8 ≤ b) (hS : Stays b w ok) (h1 : Sl (Kd.int .i64) w ok vs c.scope) (h2 : Sl kRow w ok vr c.rows) (h3 : Sl (Kd.int .i64) w ok va c.args)
    (hx : rightB x = true) (hc : hardB x c = true) (hlen : l.length + (hardP c).length ≤ 140737488355328) :
    Calls Tryz.prog 37 #[.pointer (some ⟨b, 0, none⟩), .agg #[.int .i64 c.kind, vs, vr, va]] w fun e w' => e = .returned (.tuple #[]) ∧ Bld b (l ++ hardP c) w' ∧ Kep b w w' := by
  simp only [hardB, Bool.and_eq_true, decide_eq_true_eq] at hc
  obtain ⟨⟨⟨⟨hs, hk1⟩, hk6⟩, hk2⟩, hr⟩ := hc
  have hf := scope_fits (right_doms hx).1 hs
  by_cases h6 : c.kind = 6
  · rw [if_pos h6] at hr
    simp only [linearB, Bool.and_eq_true, decide_eq_true_eq] at hr
    obtain ⟨⟨⟨ha, hh0⟩, hh2⟩, hb⟩ := hr
    exact hard_linear b l vs vr va c ok w hB hE hb8 hS h1 h6 h3 ha hh0 hh2 hf (fun k hk => (argsB_fits _ _ _ hb k hk).fit) hlen
  · rw [if_neg h6] at hr
    simp only [Bool.and_eq_true, decide_eq_true_eq] at hr
    by_cases h3' : 2 < c.kind
    · exact hard_plain b l vs vr va c ok w hB hE hb8 hS h1 h3' (by omega) hf hlen
    · have h2c := h2
      obtain ⟨_, _, _, _, hm, _⟩ := h2c
      exact hard_table b l vs vr va c ok w hB hE hb8 hS h1 hk1 (by omega) h2 hf (fun k hk => fun j hj => (rowsB_fits (doms_fits hx) (scopeB_range hs) c.rows none hr.2 k hk).2 j hj |>.fit) hm hlen
theorem softx_any (b : Nat) (l : List UInt8) (vs vr vc : Value) (x : Ins) (s : Sft) (ok : Nat → Prop) (w : World) (hB : Bld b l w) (hE : Env w) (hb8 : 8 ≤ b) (hS : Stays b w ok) (h1 : Sl (Kd.int .i64) w ok vs s.scope) (h2 : Sl kRow w ok vr s.rows) (h3 : Sl (Kd.int .i64) w ok vc s.costs)
    (hx : rightB x = true) (hc : softB x s = true) (hlen : l.length + (softP s).length ≤ 140737488355328) :
    Calls Tryz.prog 38 #[.pointer (some ⟨b, 0, none⟩), .agg #[vs, vr, vc, .int .i64 s.dflt]] w fun e w' => e = .returned (.tuple #[]) ∧ Bld b (l ++ softP s) w' ∧ Kep b w w' := by
  simp only [softB, Bool.and_eq_true, decide_eq_true_eq] at hc
  obtain ⟨⟨⟨⟨hs, hl⟩, hd⟩, hw⟩, hr⟩ := hc
  exact softw_any b l vs vr vc s ok w hB hE hb8 hS h1 h2 h3 hl.symm (scope_fits (right_doms hx).1 hs) (fun k hk => fun j hj => (rowsB_fits (doms_fits hx) (scopeB_range hs) s.rows none hr k hk).2 j hj |>.fit) (wideAny_fits (by simpa using hw)) (small_bounds hd) hlen
theorem flat_step {α : Type} (f : α → List UInt8) (z : α) (l : List α) (k : Nat) (h : k < l.length) : (l.take (k + 1)).flatMap f = (l.take k).flatMap f ++ f (nth z l k) := by
  rw [take_snoc z l k h]; simp
theorem flat_take_le {α : Type} (f : α → List UInt8) (l : List α) (k : Nat) : ((l.take k).flatMap f).length ≤ (l.flatMap f).length := by
  have : l.flatMap f = (l.take k).flatMap f ++ (l.drop k).flatMap f := by rw [← List.flatMap_append, List.take_append_drop]
  rw [this, List.length_append]; omega

set_option maxRecDepth 100000 in
set_option maxHeartbeats 1000000 in
theorem print_wrong (vD vH vS : Value) (x : Ins) (ok : Nat → Prop) (w : World) (hD : Sl kRow w ok vD x.doms) (hH : Sl kCon w ok vH x.hard) (hS : Sl kSft w ok vS x.soft) (hr : rightB x = false) :
    Calls Tryz.prog 15 #[.agg #[vD, vH, vS]] w fun e w' => e = .returned (.string ⟨(printP x).toArray⟩) ∧ Below w.heap.size w w' := by
  have hP : printP x = [] := by unfold printP; rw [hr]; rfl
  obtain ⟨AD, cD, rfl, hcD, hmD, hAD⟩ := hD
  obtain ⟨AH, cH, rfl, hcH, hmH, hAH⟩ := hH
  obtain ⟨AS, cS, rfl, hcS, hmS, hAS⟩ := hS
  have HB := Lib.hid (below_alloc1 w (.cells #[.slice AD x.doms.length cD, .slice AH x.hard.length cH, .slice AS x.soft.length cS] 26))
  have HR := Lib.hid (right_any _ _ _ x ok _ (Sl.below (v := .slice AD x.doms.length cD) (xs := x.doms) (by decide) ⟨AD, cD, rfl, hcD, hmD, hAD⟩ HB.out) (Sl.below (v := .slice AH x.hard.length cH) (xs := x.hard) (by decide) ⟨AH, cH, rfl, hcH, hmH, hAH⟩ HB.out) (Sl.below (v := .slice AS x.soft.length cS) (xs := x.soft) (by decide) ⟨AS, cS, rfl, hcS, hmS, hAS⟩ HB.out))
  have HP := Lib.hid hP
  have Hr := Lib.hid hr
  clear hP hr hAD hAH hAS
  go_enter Tryz.func15, Tryz.ntmps15
  go_wp2_with (go_at_call 14; refine HR.out.mono ?_; rintro e w' ⟨rfl, hb⟩; rw [Hr.out]; have hb' := Lib.hid hb; clear hb)
  go_ret
  exact ⟨ret_str (by rw [HP.out]), below_next HB.out hb'.out⟩

set_option maxRecDepth 100000 in
set_option maxHeartbeats 2000000 in
theorem print_right (vD vH vS : Value) (x : Ins) (ok : Nat → Prop) (w : World) (hE : Env w) (hD : Sl kRow w ok vD x.doms) (hH : Sl kCon w ok vH x.hard) (hS : Sl kSft w ok vS x.soft) (hr : rightB x = true) (hlen : (printP x).length ≤ 140737488355328) :
    Calls Tryz.prog 15 #[.agg #[vD, vH, vS]] w fun e w' => e = .returned (.string ⟨(printP x).toArray⟩) ∧ Below w.heap.size w w' := by
  have hP : printP x = domsP x.doms ++ (hardsP x.hard ++ softsP x.soft) := by unfold printP; rw [if_pos hr, List.append_assoc]
  obtain ⟨AD, cD, rfl, hcD, hmD, hAD⟩ := hD
  obtain ⟨AH, cH, rfl, hcH, hmH, hAH⟩ := hH
  obtain ⟨AS, cS, rfl, hcS, hmS, hAS⟩ := hS
  have hl : (domsP x.doms).length + (hardsP x.hard).length + (softsP x.soft).length ≤ 140737488355328 := by rw [hP, List.length_append, List.length_append] at hlen; omega
  have HB := Lib.hid (below_alloc1 w (.cells #[.slice AD x.doms.length cD, .slice AH x.hard.length cH, .slice AS x.soft.length cS] 26))
  have HD0 := Sl.move (v := .slice AD x.doms.length cD) (xs := x.doms) (by decide) (fun k _ hk => HB.out.block k hk) ⟨AD, cD, rfl, hcD, hmD, hAD⟩
  have HH0 := Sl.move (v := .slice AH x.hard.length cH) (xs := x.hard) (by decide) (fun k _ hk => HB.out.block k hk) ⟨AH, cH, rfl, hcH, hmH, hAH⟩
  have HS0 := Sl.move (v := .slice AS x.soft.length cS) (xs := x.soft) (by decide) (fun k _ hk => HB.out.block k hk) ⟨AS, cS, rfl, hcS, hmS, hAS⟩
  have HR := Lib.hid (right_any _ _ _ x _ _ HD0 HH0 HS0)
  have HG := Lib.hid (heap_alloc_new w (.cells #[.slice AD x.doms.length cD, .slice AH x.hard.length cH, .slice AS x.soft.length cS] 26))
  have HE := Lib.hid (hE.below HB.out hE.size)
  have HP := Lib.hid hP
  have Hr := Lib.hid hr
  have Hd := Lib.hid (doms_fits hr)
  clear hP hr hAD hAH hAS hE hlen
  go_enter Tryz.func15, Tryz.ntmps15
  go_wp2_with fail
  refine HR.out.mono ?_
  rintro e W1 ⟨rfl, hb⟩
  rw [Hr.out]
  have hb2 := below_alloc1 W1 (.cells #[.pointer none, .slice none 0 0] 61)
  have Hb2 := Lib.hid (below_next hb hb2)
  have g0 := cell_kept hb2 (cell_at (block_kept hb HG.out) (i := 0) rfl)
  have g1 := cell_kept hb2 (cell_at (block_kept hb HG.out) (i := 1) rfl)
  have g2 := cell_kept hb2 (cell_at (block_kept hb HG.out) (i := 2) rfl)
  have Hblk := Lib.hid (block_kept hb2 (block_kept hb HG.out))
  have hsz := hb.size
  have hsz0 : w.heap.size < (w.alloc (.cells #[.slice AD x.doms.length cD, .slice AH x.hard.length cH, .slice AS x.soft.length cS] 26)).heap.size := by simp
  have HB0 : Hid (Bld W1.heap.size [] (W1.alloc (.cells #[.pointer none, .slice none 0 0] 61))) := Lib.hid ⟨_, _, .inl rfl, heap_alloc_new W1 _, World.ownsRow_nil _ _ _ _, by simp [Value.ownBlock], fun _ => rfl⟩
  have HE1 := Lib.hid (HE.out.below (below_next hb hb2) HE.out.size)
  have hb8 : 8 ≤ W1.heap.size := Nat.le_trans HE.out.size hb.size
  have Hst : Hid (Stays W1.heap.size (W1.alloc (.cells #[.pointer none, .slice none 0 0] 61)) (fun k => ok k ∧ k < w.heap.size)) := Lib.hid fun k hk => .inl (by have := hk.2; omega)
  have HD1 := Lib.hid (Sl.below (by decide) HD0 Hb2.out)
  have HH1 := Lib.hid (Sl.below (by decide) HH0 Hb2.out)
  have HS1 := Lib.hid (Sl.below (by decide) HS0 Hb2.out)
  have Hgw : Hid (w.heap.size < W1.heap.size) := Lib.hid (by omega)
  clear hb hb2 HD0 HH0 HS0 HR HG HE
  have Hvl : Hid (varT.length = 3) := Lib.hid rfl
  have Hel : Hid (endT.length = 2) := Lib.hid rfl
  have Hg : Hid ((W1.alloc (.cells #[.pointer none, .slice none 0 0] 61)).heap[w.heap.size]? = some (.cells #[.slice AD x.doms.length cD, .slice AH x.hard.length cH, .slice AS x.soft.length cS] 26 (0, 0))) := Lib.hid Hblk.out
  go_wp2
  go_loopw [16] (fun i wr => ∃ k : Nat, i = .int .i64 k ∧ k ≤ x.doms.length ∧ Hid (Bld W1.heap.size (domsP (x.doms.take k)) wr) ∧ Hid (Kep W1.heap.size (W1.alloc (.cells #[.pointer none, .slice none 0 0] 61)) wr)) (fun i _ => x.doms.length - (intOf i).toNat)
  case atStart => exact ⟨0, rfl, by omega, HB0, Lib.hid (Kep.refl _ _)⟩
  case round =>
    obtain ⟨k, rfl, hk, HBk, HKk⟩ := hrel
    clear g0 g1 g2
    by_cases hlt : k < x.doms.length
    · obtain ⟨b1, o1, vt, rfl, e1, ht⟩ := (Sl.elems (Hst.out.sl (by decide) HD1.out HKk.out)).row hlt
      have HT := Lib.hid ht
      have hst := flat_step (fun d => varT ++ numsP d ++ endT) [] x.doms k hlt
      have hle : (domsP (x.doms.take (k + 1))).length ≤ (domsP x.doms).length := flat_take_le _ x.doms (k + 1)
      have hst' : domsP (x.doms.take (k + 1)) = domsP (x.doms.take k) ++ (varT ++ numsP (nth [] x.doms k) ++ endT) := hst
      have hb3 : (domsP (x.doms.take k)).length + 3 + (numsP (nth [] x.doms k)).length + 2 ≤ (domsP x.doms).length := by
        rw [hst', List.length_append, List.length_append, List.length_append, Hvl.out, Hel.out] at hle; omega
      have Hst2 := Lib.hid hst'
      clear hst hst' hle
      go_wp2_with fail
      refine (writeString_any _ _ ⟨varT.toArray⟩ _ HBk.out (by rw [size_mk, Hvl.out]; omega)).mono ?_
      rintro e W2 ⟨rfl, hB2, hk2⟩
      have HB2 := Lib.hid hB2
      have HK2 := Lib.hid (HKk.out.trans hk2)
      have HKt := Lib.hid hk2
      clear hB2 hk2
      go_wp2_with fail
      refine (numbers_any _ _ _ (nth [] x.doms k) _ _ HB2.out (HE1.out.below HK2.out.below hb8) hb8 ((Hst.out.kep HKk.out).sl (by decide) HT.out HKt.out) (Hst.out.kep HK2.out) (fun j hj => (Hd.out k hlt j hj).fit) (by rw [List.length_append]; show _ + varT.length + _ ≤ _; rw [Hvl.out]; omega)).mono ?_
      rintro e W3 ⟨rfl, hB3, hk3⟩
      have HB3 := Lib.hid hB3
      have HK3 := Lib.hid (HK2.out.trans hk3)
      clear hB3 hk3
      go_wp2_with fail
      refine (writeString_any _ _ ⟨endT.toArray⟩ _ HB3.out (by rw [size_mk, Hel.out, List.length_append, List.length_append]; show _ + varT.length + _ + _ ≤ _; rw [Hvl.out]; omega)).mono ?_
      rintro e W4 ⟨rfl, hB4, hk4⟩
      have HB4 := Lib.hid hB4
      have HK4 := Lib.hid (HK3.out.trans hk4)
      clear hB4 hk4
      go_wp2
      go_roundw
      case rel => exact ⟨k + 1, by go_num, by omega, Lib.hid (by rw [Hst2.out]; simpa only [List.append_assoc] using HB4.out), HK4⟩
      case measure => simp [intOf]; omega
    · have HBx : Hid (Bld W1.heap.size (domsP x.doms) wr) := by
        have e : x.doms.take k = x.doms := List.take_of_length_le (by omega)
        rw [e] at HBk; exact HBk
      clear HBk HB0
      obtain ⟨wo, rfl⟩ : ∃ wo : World, wo = wr := ⟨_, rfl⟩
      have HKo := Lib.hid HKk.out
      have g1 : wo.cell? ⟨w.heap.size, 1, none⟩ = some (.slice AH x.hard.length cH) := cell_at ((HKk.out.below.block _ Hgw.out).trans Hg.out) (i := 1) rfl
      clear HKk
      go_wp2
      clear g1
      go_loopw [30] (fun i wr => ∃ k : Nat, i = .int .i64 k ∧ k ≤ x.hard.length ∧ Hid (Bld W1.heap.size (domsP x.doms ++ hardsP (x.hard.take k)) wr) ∧ Hid (Kep W1.heap.size (W1.alloc (.cells #[.pointer none, .slice none 0 0] 61)) wr)) (fun i _ => x.hard.length - (intOf i).toNat)
      case atStart => exact ⟨0, rfl, by omega, Lib.hid (by simpa [hardsP] using HBx.out), HKo⟩
      case round =>
        obtain ⟨k, rfl, hk, HBk, HKk⟩ := hrel
        by_cases hlt : k < x.hard.length
        · obtain ⟨b1, o1, cs, rfl, _, hK, hcell⟩ := (Sl.elems (Hst.out.sl (by decide) HH1.out HKk.out)) k (nth default x.hard k) (nth_get default x.hard k hlt)
          obtain ⟨us, ur, ua, rfl, q1, q2, q3⟩ := kCon_cells hK
          have f0 := hcell 0 _ rfl
          have f1 := hcell 1 _ rfl
          have f2 := hcell 2 _ rfl
          have f3 := hcell 3 _ rfl
          simp only [show kCon.sz = 4 from rfl, Nat.add_zero, ← Nat.add_assoc] at f0 f1 f2 f3
          clear hcell hK
          have q1' := q1
          have q2' := q2
          have q3' := q3
          obtain ⟨B0, m0, rfl, _, _, _⟩ := q1
          obtain ⟨B1, m1, rfl, _, _, _⟩ := q2
          obtain ⟨B2, m2, rfl, _, _, _⟩ := q3
          have hst := flat_step (fun c => hardP c ++ endT) default x.hard k hlt
          have hle : (hardsP (x.hard.take (k + 1))).length ≤ (hardsP x.hard).length := flat_take_le _ x.hard (k + 1)
          have hst' : hardsP (x.hard.take (k + 1)) = hardsP (x.hard.take k) ++ (hardP (nth default x.hard k) ++ endT) := hst
          have hb3 : (hardsP (x.hard.take k)).length + (hardP (nth default x.hard k)).length + 2 ≤ (hardsP x.hard).length := by
            rw [hst', List.length_append, List.length_append, Hel.out] at hle; omega
          have Hst2 := Lib.hid hst'
          have hwl := Lib.hid HBk.out.lt
          have HS2 := Lib.hid ((Hst.out.kep HKk.out).below (below_alloc1 wr (.cells #[.int .i64 (nth default x.hard k).kind, .slice B0 (nth default x.hard k).scope.length m0, .slice B1 (nth default x.hard k).rows.length m1, .slice B2 (nth default x.hard k).args.length m2] 43)))
          have hcall := Lib.hid (hardw_any W1.heap.size _ _ _ _ x (nth default x.hard k) _ (wr.alloc (.cells #[.int .i64 (nth default x.hard k).kind, .slice B0 (nth default x.hard k).scope.length m0, .slice B1 (nth default x.hard k).rows.length m1, .slice B2 (nth default x.hard k).args.length m2] 43)) (HBk.out.move (below_alloc1 _ _)) ((HE1.out.below HKk.out.below hb8).below (below_alloc1 _ _) (HE1.out.below HKk.out.below hb8).size) hb8 HS2.out (q1'.below (by decide) (below_alloc1 _ _)) (q2'.below (by decide) (below_alloc1 _ _)) (q3'.below (by decide) (below_alloc1 _ _)) Hr.out ((right_hard Hr.out).2 k hlt) (by rw [List.length_append]; omega))
          clear hst hst' hle q1' q2' q3'
          go_wp2_with fail
          refine hcall.out.mono ?_
          rintro e W2 ⟨rfl, hB2, hk2⟩
          have HB2 := Lib.hid hB2
          have HK2 := Lib.hid (HKk.out.trans ((kep_alloc wr _ (Nat.le_of_lt hwl.out)).trans hk2))
          clear hB2 hk2
          go_wp2_with fail
          refine (writeString_any _ _ ⟨endT.toArray⟩ _ HB2.out (by rw [size_mk, Hel.out, List.length_append, List.length_append]; omega)).mono ?_
          rintro e W4 ⟨rfl, hB4, hk4⟩
          have HB4 := Lib.hid hB4
          have HK4 := Lib.hid (HK2.out.trans hk4)
          clear hB4 hk4 f0 f1 f2 f3
          go_wp2
          go_roundw
          case rel => exact ⟨k + 1, by go_num, by omega, Lib.hid (by rw [Hst2.out]; simpa only [List.append_assoc] using HB4.out), HK4⟩
          case measure => simp [intOf]; omega
        · have HBy : Hid (Bld W1.heap.size (domsP x.doms ++ hardsP x.hard) wr) := by
            have e : x.hard.take k = x.hard := List.take_of_length_le (by omega)
            rw [e] at HBk; exact HBk
          clear HBk HBx HKo
          have HBx := Lib.hid HBy.out
          clear HBy
          obtain ⟨wo, rfl⟩ : ∃ wo : World, wo = wr := ⟨_, rfl⟩
          have HKo := Lib.hid HKk.out
          have g2 : wo.cell? ⟨w.heap.size, 2, none⟩ = some (.slice AS x.soft.length cS) := cell_at ((HKk.out.below.block _ Hgw.out).trans Hg.out) (i := 2) rfl
          clear HKk
          go_wp2
          clear g2
          go_loopw [42] (fun i wr => ∃ k : Nat, i = .int .i64 k ∧ k ≤ x.soft.length ∧ Hid (Bld W1.heap.size (domsP x.doms ++ hardsP x.hard ++ softsP (x.soft.take k)) wr) ∧ Hid (Kep W1.heap.size (W1.alloc (.cells #[.pointer none, .slice none 0 0] 61)) wr)) (fun i _ => x.soft.length - (intOf i).toNat)
          case atStart => exact ⟨0, rfl, by omega, Lib.hid (by simpa [softsP] using HBx.out), HKo⟩
          case round =>
            obtain ⟨k, rfl, hk, HBk, HKk⟩ := hrel
            by_cases hlt : k < x.soft.length
            · obtain ⟨b1, o1, cs, rfl, _, hK, hcell⟩ := (Sl.elems (Hst.out.sl (by decide) HS1.out HKk.out)) k (nth default x.soft k) (nth_get default x.soft k hlt)
              obtain ⟨us, ur, uc, rfl, q1, q2, q3⟩ := kSft_cells hK
              have f0 := hcell 0 _ rfl
              have f1 := hcell 1 _ rfl
              have f2 := hcell 2 _ rfl
              have f3 := hcell 3 _ rfl
              simp only [show kSft.sz = 4 from rfl, Nat.add_zero, ← Nat.add_assoc] at f0 f1 f2 f3
              clear hcell hK
              have q1' := q1
              have q2' := q2
              have q3' := q3
              obtain ⟨B0, m0, rfl, _, _, _⟩ := q1
              obtain ⟨B1, m1, rfl, _, _, _⟩ := q2
              obtain ⟨B2, m2, rfl, _, _, _⟩ := q3
              have hst := flat_step (fun c => softP c ++ endT) default x.soft k hlt
              have hle : (softsP (x.soft.take (k + 1))).length ≤ (softsP x.soft).length := flat_take_le _ x.soft (k + 1)
              have hst' : softsP (x.soft.take (k + 1)) = softsP (x.soft.take k) ++ (softP (nth default x.soft k) ++ endT) := hst
              have hb3 : (softsP (x.soft.take k)).length + (softP (nth default x.soft k)).length + 2 ≤ (softsP x.soft).length := by
                rw [hst', List.length_append, List.length_append, Hel.out] at hle; omega
              have Hst2 := Lib.hid hst'
              have hwl := Lib.hid HBk.out.lt
              have HS2 := Lib.hid ((Hst.out.kep HKk.out).below (below_alloc1 wr (.cells #[.slice B0 (nth default x.soft k).scope.length m0, .slice B1 (nth default x.soft k).rows.length m1, .slice B2 (nth default x.soft k).costs.length m2, .int .i64 (nth default x.soft k).dflt] 47)))
              have hcall := Lib.hid (softx_any W1.heap.size _ _ _ _ x (nth default x.soft k) _ (wr.alloc (.cells #[.slice B0 (nth default x.soft k).scope.length m0, .slice B1 (nth default x.soft k).rows.length m1, .slice B2 (nth default x.soft k).costs.length m2, .int .i64 (nth default x.soft k).dflt] 47)) (HBk.out.move (below_alloc1 _ _)) ((HE1.out.below HKk.out.below hb8).below (below_alloc1 _ _) (HE1.out.below HKk.out.below hb8).size) hb8 HS2.out (q1'.below (by decide) (below_alloc1 _ _)) (q2'.below (by decide) (below_alloc1 _ _)) (q3'.below (by decide) (below_alloc1 _ _)) Hr.out ((right_soft Hr.out).2 k hlt) (by simp only [List.length_append]; omega))
              clear hst hst' hle q1' q2' q3'
              go_wp2_with fail
              refine hcall.out.mono ?_
              rintro e W2 ⟨rfl, hB2, hk2⟩
              have HB2 := Lib.hid hB2
              have HK2 := Lib.hid (HKk.out.trans ((kep_alloc wr _ (Nat.le_of_lt hwl.out)).trans hk2))
              clear hB2 hk2
              go_wp2_with fail
              refine (writeString_any _ _ ⟨endT.toArray⟩ _ HB2.out (by rw [size_mk, Hel.out]; simp only [List.length_append]; omega)).mono ?_
              rintro e W4 ⟨rfl, hB4, hk4⟩
              have HB4 := Lib.hid hB4
              have HK4 := Lib.hid (HK2.out.trans hk4)
              clear hB4 hk4 f0 f1 f2 f3
              go_wp2
              go_roundw
              case rel => exact ⟨k + 1, by go_num, by omega, Lib.hid (by rw [Hst2.out]; simpa only [List.append_assoc] using HB4.out), HK4⟩
              case measure => simp [intOf]; omega
            · have HBy : Hid (Bld W1.heap.size (domsP x.doms ++ hardsP x.hard ++ softsP x.soft) wr) := by
                have e : x.soft.take k = x.soft := List.take_of_length_le (by omega)
                rw [e] at HBk; exact HBk
              clear HBk HBx HKo
              go_wp2_with (go_at_call 39; refine (string_any _ _ _ HBy.out).mono ?_; rintro e W5 ⟨rfl, hb5⟩; have Hb5 := Lib.hid hb5; clear hb5)
              go_ret
              refine ⟨ret_str (by rw [HP.out]), ?_⟩
              exact below_next HB.out (Hb2.out.trans ((HKk.out.below.trans Hb5.out).mono (by have := Hgw.out; simp; omega)))

/-- inst.Print. -/
theorem print_any (vD vH vS : Value) (x : Ins) (ok : Nat → Prop) (w : World) (hE : Env w) (hD : Sl kRow w ok vD x.doms) (hH : Sl kCon w ok vH x.hard) (hS : Sl kSft w ok vS x.soft) (hlen : (printP x).length ≤ 140737488355328) :
    Calls Tryz.prog 15 #[.agg #[vD, vH, vS]] w fun e w' => e = .returned (.string ⟨(printP x).toArray⟩) ∧ Below w.heap.size w w' := by
  cases hr : rightB x
  · exact print_wrong vD vH vS x ok w hD hH hS hr
  · exact print_right vD vH vS x ok w hE hD hH hS hr hlen
end Go.Proofs.YtoahaigfjfeopaaGreatDoor

/- The texts that 'shown' tries, in plain. -/
namespace Go.Proofs.YtoahaigfjfeopaaGreatDoor
theorem parse_t1 : parseP [118, 97, 114, 32, 48, 32, 49, 59, 32, 100, 105, 102, 102, 32, 48, 59] = .ok ⟨[[0, 1]], [⟨3, [0], [], []⟩], []⟩ := by kernel_rfl
theorem parse_t2 : parseP [118, 97, 114, 32, 48, 32, 49, 59, 32, 100, 105, 102, 102, 32, 49, 59] = .error (14, 5) := by kernel_rfl
theorem parse_t3 : parseP [118, 97, 114, 32, 49, 32, 48, 59] = .error (6, 6) := by kernel_rfl
theorem right_t1 : rightB ⟨[[0, 1]], [⟨3, [0], [], []⟩], []⟩ = true := by kernel_rfl
theorem print_t1 : printP ⟨[[0, 1]], [⟨3, [0], [], []⟩], []⟩ = [118, 97, 114, 32, 48, 32, 49, 59, 10, 100, 105, 102, 102, 32, 48, 59, 10] := by kernel_rfl
end Go.Proofs.YtoahaigfjfeopaaGreatDoor

/- arboristlaw06.shown; the contracts in the form in which the laws use them. -/
namespace Go.Proofs.YtoahaigfjfeopaaGreatDoor
open Go.RowKit
attribute [local irreducible] wpStill wpLex Calls

theorem Env.env0 {w : World} (h : Env w) : Env0 w := ⟨h.syn, h.rng⟩
theorem Env.tabs {w : World} (h : Env w) : Tabs w := ⟨h.words, h.hows⟩
/-- Anywhere. -/
def Any (_ : Nat) : Prop := True
theorem InsAt.below {w w1 : World} {ok : Nat → Prop} {dv hv sv : Value} {y : Ins} (h : InsAt w ok dv hv sv y) (hb : Below w.heap.size w w1) : InsAt w1 ok dv hv sv y :=
  ⟨h.1.below (by decide) hb, h.2.1.below (by decide) hb, h.2.2.below (by decide) hb⟩
theorem InsAt.mono {w : World} {ok ok' : Nat → Prop} {dv hv sv : Value} {y : Ins} (h : InsAt w ok dv hv sv y) (hk : ∀ k, ok k → ok' k) : InsAt w ok' dv hv sv y :=
  ⟨h.1.mono hk, h.2.1.mono hk, h.2.2.mono hk⟩
theorem InsAt.nil (w : World) (ok : Nat → Prop) : InsAt w ok (.slice none 0 0) (.slice none 0 0) (.slice none 0 0) ⟨[], [], []⟩ :=
  ⟨⟨none, 0, rfl, Nat.le_refl _, by simp, fun j x hx => by simp at hx⟩, ⟨none, 0, rfl, Nat.le_refl _, by simp, fun j x hx => by simp at hx⟩, ⟨none, 0, rfl, Nat.le_refl _, by simp, fun j x hx => by simp at hx⟩⟩
theorem reads_ok (l : List UInt8) (y : Ins) (w : World) (hE : Env w) (hl : l.length ≤ 140737488355328) (hq : parseP l = .ok y) :
    Calls Tryz.prog 18 #[.string ⟨l.toArray⟩] w fun e w' => (∃ DA Dc HA Hc SA Sc, e = .returned (.tuple #[.agg #[.slice DA y.doms.length Dc, .slice HA y.hard.length Hc, .slice SA y.soft.length Sc], .int .i64 0, .int .i64 0]) ∧ InsAt w' Any (.slice DA y.doms.length Dc) (.slice HA y.hard.length Hc) (.slice SA y.soft.length Sc) y ∧ y.doms.length ≤ 40 ∧ y.hard.length ≤ 200 ∧ y.soft.length ≤ 200) ∧ Below w.heap.size w w' := by
  refine (parse_any l w hE.env0 hE.tabs hE.size hl).mono ?_
  rintro e w' ⟨h, hb⟩
  rw [hq] at h
  obtain ⟨dv, hv, sv, rfl, hi, h1, h2, h3⟩ := h
  have hi' := hi.mono (ok' := Any) (fun _ _ => trivial)
  obtain ⟨⟨A1, c1, rfl, _⟩, ⟨A2, c2, rfl, _⟩, ⟨A3, c3, rfl, _⟩⟩ := hi
  exact ⟨⟨A1, c1, A2, c2, A3, c3, rfl, hi', h1, h2, h3⟩, hb⟩
theorem reads_err (l : List UInt8) (p x : Int) (w : World) (hE : Env w) (hl : l.length ≤ 140737488355328) (hq : parseP l = .error (p, x)) :
    Calls Tryz.prog 18 #[.string ⟨l.toArray⟩] w fun e w' => e = .returned (.tuple #[.agg #[.slice none 0 0, .slice none 0 0, .slice none 0 0], .int .i64 p, .int .i64 x]) ∧ Below w.heap.size w w' := by
  refine (parse_any l w hE.env0 hE.tabs hE.size hl).mono ?_
  rintro e w' ⟨h, hb⟩
  rw [hq] at h
  exact ⟨h, hb⟩

set_option maxRecDepth 100000 in
set_option maxHeartbeats 4000000 in
theorem shown_any (w : World) (hE : Env w) :
    Calls Tryz.prog 11 #[] w fun e w' => e = .returned (.bool true) ∧ Below w.heap.size w w' := by
  have HE := Lib.hid hE
  have HP := Lib.hid (reads_ok _ _ w hE (by decide) parse_t1)
  clear hE
  go_enter Tryz.func11, Tryz.ntmps11
  go_wp2_with (go_at_call 18; refine HP.out.mono ?_; rintro e w1 ⟨⟨DA, Dc, HA, Hc, SA, Sc, rfl, hi, _⟩, hb⟩; (have HI := Lib.hid hi); (have HB1 := Lib.hid hb); clear hi hb HP)
  have hb1 := HB1.out.alloc HB1.out.size (.cells #[.slice DA 1 Dc, .slice HA 1 Hc, .slice SA 0 Sc] 26)
  have HX1 := Lib.hid (heap_alloc_new w1 (.cells #[.slice DA 1 Dc, .slice HA 1 Hc, .slice SA 0 Sc] 26))
  have HI1 := Lib.hid (HI.out.below (below_alloc1 w1 (.cells #[.slice DA 1 Dc, .slice HA 1 Hc, .slice SA 0 Sc] 26)))
  have HP2 := Lib.hid (reads_err _ _ _ _ (HE.out.below hb1 HE.out.size) (by decide) parse_t2)
  have HB2 := Lib.hid hb1
  clear hb1 HI HB1
  generalize w1.alloc (.cells #[.slice DA 1 Dc, .slice HA 1 Hc, .slice SA 0 Sc] 26) = W1 at *
  refine HP2.out.mono ?_
  rintro e w2 ⟨rfl, hb⟩
  have hb2 := (below_next HB2.out hb).alloc (below_next HB2.out hb).size (.cells #[.slice none 0 0, .slice none 0 0, .slice none 0 0] 26)
  have hk2 := hb.alloc hb.size (.cells #[.slice none 0 0, .slice none 0 0, .slice none 0 0] 26)
  have HX2 := Lib.hid (block_kept hk2 HX1.out)
  have HI2 := Lib.hid (HI1.out.below hk2)
  have HP3 := Lib.hid (reads_err _ _ _ _ (HE.out.below hb2 HE.out.size) (by decide) parse_t3)
  have HB3 := Lib.hid hb2
  clear hb hb2 hk2 HP2 HB2 HX1 HI1
  go_wp2_with fail
  generalize w2.alloc (.cells #[.slice none 0 0, .slice none 0 0, .slice none 0 0] 26) = W2 at *
  refine HP3.out.mono ?_
  rintro e w3 ⟨rfl, hb⟩
  have hb2 := (below_next HB3.out hb).alloc (below_next HB3.out hb).size (.cells #[.slice none 0 0, .slice none 0 0, .slice none 0 0] 26)
  have hk2 := hb.alloc hb.size (.cells #[.slice none 0 0, .slice none 0 0, .slice none 0 0] 26)
  have HX3 := Lib.hid (block_kept hk2 HX2.out)
  have HI3 := Lib.hid (HI2.out.below hk2)
  have HB4 := Lib.hid hb2
  clear hb hb2 hk2 HP3 HB3 HX2 HI2
  have x0 := cell_at HX3.out (i := 0) rfl
  have x1 := cell_at HX3.out (i := 1) rfl
  have x2 := cell_at HX3.out (i := 2) rfl
  obtain ⟨b, o, cs, hA, _, hK, hcell⟩ := HI3.out.2.1.elems 0 _ rfl
  obtain ⟨vs, vr, va, rfl, e1, e2, e3⟩ := kCon_cells hK
  have f0 := hcell 0 _ rfl
  simp only [Nat.zero_mul, Nat.add_zero] at f0
  subst hA
  clear hcell hK e1 e2 e3
  go_wp2_with fail
  generalize w3.alloc (.cells #[.slice none 0 0, .slice none 0 0, .slice none 0 0] 26) = W3 at *
  have HR := Lib.hid (right_any _ _ _ _ _ _ HI3.out.1 HI3.out.2.1 HI3.out.2.2)
  rw [right_t1] at HR
  go_wp2_with (first
    | (go_at_call 14; refine HR.out.mono ?_; rintro e w5 ⟨rfl, hb⟩; (have HX5 := Lib.hid (block_kept hb HX3.out)); (have HI5 := Lib.hid (HI3.out.below hb)); (have HB5 := Lib.hid (below_next HB4.out hb)); (have x0 := cell_at HX5.out (i := 0) rfl); (have x1 := cell_at HX5.out (i := 1) rfl); (have x2 := cell_at HX5.out (i := 2) rfl); (have HPR := Lib.hid (print_any _ _ _ _ _ w5 (HE.out.below HB5.out HE.out.size) HI5.out.1 HI5.out.2.1 HI5.out.2.2 (by rw [print_t1]; decide))); clear hb HX3 HI3 HB4 HR)
    | (go_at_call 15; rw [print_t1] at HPR; refine HPR.out.mono ?_; rintro e w6 ⟨rfl, hb⟩; (have HB6 := Lib.hid (below_next HB5.out hb)); clear hb HPR))
  go_ret
  exact ⟨rfl, HB6.out⟩
end Go.Proofs.YtoahaigfjfeopaaGreatDoor

/- Blanks and comments alone: no token. -/
namespace Go.Proofs.YtoahaigfjfeopaaGreatDoor

/-- What a number says: a blank, a line's end, or a comment. -/
def blank1 (v : Int) : List UInt8 := if v % 4 = 0 then [32] else if v % 4 = 1 then [10] else if v % 4 = 2 then [9] else [35, 118, 97, 114, 32, 48, 59, 10]
def blankP (l : List Int) : List UInt8 := l.flatMap blank1
theorem scan_one (a : Nat) (c : UInt8) (r : List UInt8) (h : c.toNat = 32 ∨ c.toNat = 9 ∨ c.toNat = 10) : scanQ a (c :: r) = scanQ (a + 1) r := by
  have hl : leftP (c :: r) = 1 := by rw [leftP, if_pos h]
  rw [scanQ_left a (c :: r) (by simp) (by omega), hl]
  rfl
theorem scan_note (a : Nat) (r : List UInt8) : scanQ a ([35, 118, 97, 114, 32, 48, 59, 10] ++ r) = scanQ (a + 8) r := by
  have hl : leftP ([35, 118, 97, 114, 32, 48, 59, 10] ++ r) = 7 := by
    simp [leftP, runP, notEol]
  rw [scanQ_left a _ (by simp) (by omega), hl]
  exact scan_one (a + 7) 10 r (by decide)
theorem scan_blank1 (a : Nat) (v : Int) (r : List UInt8) : scanQ a (blank1 v ++ r) = scanQ (a + (blank1 v).length) r := by
  unfold blank1
  split
  · exact scan_one a 32 r (by decide)
  · split
    · exact scan_one a 10 r (by decide)
    · split
      · exact scan_one a 9 r (by decide)
      · exact scan_note a r
theorem scan_blank : ∀ (l : List Int) (a : Nat), scanQ a (blankP l) = .ok [⟨4, [], 0, a + (blankP l).length⟩]
  | [], a => by rw [show blankP [] = [] from rfl, scanQ_nil]; rfl
  | v :: l, a => by
    rw [show blankP (v :: l) = blank1 v ++ blankP l from rfl, scan_blank1, scan_blank l, List.length_append]; simp only [Except.ok.injEq, List.cons.injEq, Tok.mk.injEq, true_and, and_true]; omega
theorem blank1_len (v : Int) : (blank1 v).length ≤ 8 := by
  unfold blank1
  split
  · decide
  · split
    · decide
    · split <;> decide
theorem blankP_len : ∀ l : List Int, (blankP l).length ≤ 8 * l.length
  | [] => Nat.le_refl _
  | v :: l => by
    have := blankP_len l
    have := blank1_len v
    rw [show blankP (v :: l) = blank1 v ++ blankP l from rfl, List.length_append, List.length_cons]
    omega
theorem parse_blank (l : List Int) (h : l.length ≤ 60) : parseP (blankP l) = .ok ⟨[], [], []⟩ := by
  have hl := blankP_len l
  have ha : allP (blankP l) = .ok [⟨4, [], 0, 0 + (blankP l).length⟩] := by
    rw [allP, if_neg (by omega)]
    exact scan_blank l 0
  simp only [parseP, ha]
  rw [stmtsQ]
  rfl
theorem blankP_snoc (l : List Int) (v : Int) : blankP (l ++ [v]) = blankP l ++ blank1 v := by simp [blankP]
theorem take_next (l : List Int) (k : Nat) (h : k < l.length) : l.take (k + 1) = l.take k ++ [nth 0 l k] := by
  rw [List.take_add_one, nth_get 0 l k h]; rfl
end Go.Proofs.YtoahaigfjfeopaaGreatDoor

/- arboristlaw06.InstEmpty. -/
namespace Go.Proofs.YtoahaigfjfeopaaGreatDoor
open Go.RowKit
attribute [local irreducible] wpStill wpLex Calls

def EmpRel (xs : List Int) (g : Nat) (v s : Value) (wr : World) (w : World) : Prop :=
  ∃ k : Nat, ∃ sb : ByteArray, v = .int .i64 k ∧ k ≤ xs.length ∧ k ≤ 60 ∧ s = .string sb ∧ Hid (sb = ⟨(blankP (xs.take k)).toArray⟩) ∧ sb.size ≤ 8 * k ∧ wr = w ∧ g = 60 - k
theorem ba_app (a b : List UInt8) : (⟨a.toArray⟩ : ByteArray) ++ ⟨b.toArray⟩ = ⟨(a ++ b).toArray⟩ := by
  apply ByteArray.ext
  simp [ByteArray.data_append]
theorem blank_next (xs : List Int) (k : Nat) (h : k < xs.length) (sb : ByteArray) (hs : sb = ⟨(blankP (xs.take k)).toArray⟩) (t : List UInt8) (ht : blank1 (nth 0 xs k) = t) : sb ++ ⟨t.toArray⟩ = ⟨(blankP (xs.take (k + 1))).toArray⟩ := by
  rw [hs, ba_app, take_next xs k h, blankP_snoc, ht]
theorem right_empty : rightB ⟨[], [], []⟩ = true := by kernel_rfl
theorem print_empty : printP ⟨[], [], []⟩ = [] := by kernel_rfl
theorem zero_const (w : World) : (Instr.build 26 #[]).run Tryz.prog w = .ok (.agg #[.slice none 0 0, .slice none 0 0, .slice none 0 0]) w := by kernel_rfl
set_option maxRecDepth 100000 in
set_option maxHeartbeats 4000000 in
theorem empty_any (v : Value) (xs : List Int) (ok : Nat → Prop) (w : World) (hE : Env w) (h1 : Sl (Kd.int .u8) w ok v xs) (hb : ∀ k, k < xs.length → 0 ≤ nth 0 xs k ∧ nth 0 xs k ≤ 255) :
    Calls Tryz.prog 10 #[v] w fun e w' => e = .returned (.bool true) ∧ Below w.heap.size w w' := by
  have HS := Lib.hid (shown_any w hE)
  have H1 := Lib.hid h1
  have HE := Lib.hid hE
  have HB := Lib.hid hb
  obtain ⟨A, c, rfl, hc, hm, _⟩ := h1
  clear hE hb
  go_enter Tryz.func10, Tryz.ntmps10
  go_wp2_with (go_at_call 11; refine HS.out.mono ?_; rintro e w1 ⟨rfl, hb⟩; (have HB1 := Lib.hid hb); (have H2 := Lib.hid (H1.out.below (by decide) hb)); (have HE2 := Lib.hid (HE.out.below hb HE.out.size)); clear hb HS H1)
  go_loopg [5, 4] 60 (fun g v s wr => EmpRel xs g v s wr w1)
  case atStart => exact ⟨0, _, rfl, by omega, by omega, rfl, Lib.hid rfl, Nat.le_refl _, rfl, rfl⟩
  case round =>
    obtain ⟨k, sb, rfl, hk, hk6, rfl, hs, hsz, rfl, hg⟩ := hrel
    have HG := Lib.hid hg
    clear hg
    by_cases hlt : k < xs.length
    · by_cases hlt6 : k < 60
      · obtain ⟨b, o, rfl, hcell⟩ := H2.out.elems.num hlt
        have hn := HB.out k hlt
        have HNX := Lib.hid (blank_next xs k hlt sb hs.out)
        unfold blank1 at HNX
        generalize nth 0 xs k = n at *
        by_cases e0 : n % 4 = 0
        · have b0 : (n % 4 == 0) = true := by simp [e0]
          have HQ := Lib.hid (HNX.out _ (if_pos e0))
          clear e0
          go_wp2
          go_roundg (60 - (k + 1))
          case rel => exact ⟨k + 1, _, by go_num, by omega, by omega, rfl, HQ, by have : (ByteArray.mk #[32]).size = 1 := rfl; rw [ByteArray.size_append]; omega, rfl, rfl⟩
          case measure => have := HG.out; omega
        · have b0 : (n % 4 == 0) = false := by simp [e0]
          by_cases e1 : n % 4 = 1
          · have b1 : (n % 4 == 1) = true := by simp [e1]
            have HQ := Lib.hid (HNX.out _ ((if_neg e0).trans (if_pos e1)))
            clear e0 e1
            go_wp2
            go_roundg (60 - (k + 1))
            case rel => exact ⟨k + 1, _, by go_num, by omega, by omega, rfl, HQ, by have : (ByteArray.mk #[10]).size = 1 := rfl; rw [ByteArray.size_append]; omega, rfl, rfl⟩
            case measure => have := HG.out; omega
          · have b1 : (n % 4 == 1) = false := by simp [e1]
            by_cases e2 : n % 4 = 2
            · have b2 : (n % 4 == 2) = true := by simp [e2]
              have HQ := Lib.hid (HNX.out _ ((if_neg e0).trans ((if_neg e1).trans (if_pos e2))))
              clear e0 e1 e2
              go_wp2
              go_roundg (60 - (k + 1))
              case rel => exact ⟨k + 1, _, by go_num, by omega, by omega, rfl, HQ, by have : (ByteArray.mk #[9]).size = 1 := rfl; rw [ByteArray.size_append]; omega, rfl, rfl⟩
              case measure => have := HG.out; omega
            · have b2 : (n % 4 == 2) = false := by simp [e2]
              have b3 : (n % 4 == 3) = true := by
                simp; omega
              have HQ := Lib.hid (HNX.out _ ((if_neg e0).trans ((if_neg e1).trans (if_neg e2))))
              clear e0 e1 e2
              go_wp2
              go_roundg (60 - (k + 1))
              case rel => exact ⟨k + 1, _, by go_num, by omega, by omega, rfl, HQ, by have : (ByteArray.mk #[35, 118, 97, 114, 32, 48, 59, 10]).size = 8 := rfl; rw [ByteArray.size_append]; omega, rfl, rfl⟩
              case measure => have := HG.out; omega
      · have HK : Hid ((xs.take k).length ≤ 60) := Lib.hid (by rw [List.length_take]; omega)
        have hq := reads_ok _ _ wr HE2.out (by have := blankP_len (xs.take k); have := HK.out; omega) (parse_blank _ HK.out)
        rw [← hs.out] at hq
        have HPQ := Lib.hid hq
        clear hq hs
        go_wp2_with (go_at_call 18; refine HPQ.out.mono ?_; rintro e w2 ⟨⟨DA, Dc, HA, Hc, SA, Sc, rfl, hi, _⟩, hb⟩; (have HI := Lib.hid hi); (have HB2 := Lib.hid (below_next HB1.out hb)); clear hi hb HPQ)
        have hbe := Below.refl w2.heap.size w2 |>.alloc (Nat.le_refl _) (.cells #[.slice DA 0 Dc, .slice HA 0 Hc, .slice SA 0 Sc] 26)
        have HX := Lib.hid (heap_alloc_new w2 (.cells #[.slice DA 0 Dc, .slice HA 0 Hc, .slice SA 0 Sc] 26))
        have HI2 := Lib.hid (HI.out.below hbe)
        have HB3 := Lib.hid (below_next HB2.out hbe)
        clear HI HB2 hbe
        generalize w2.alloc (.cells #[.slice DA 0 Dc, .slice HA 0 Hc, .slice SA 0 Sc] 26) = W at *
        refine (same_any _ _ _ _ _ _ _ _ Any W HI2.out (InsAt.nil W Any)).mono ?_
        rintro e w3 ⟨rfl, hb⟩
        have HI3 := Lib.hid (HI2.out.below hb)
        have HB4 := Lib.hid (below_next HB3.out hb)
        have HX3 := Lib.hid (block_kept hb HX.out)
        have hr := right_any _ _ _ _ _ w3 HI3.out.1 HI3.out.2.1 HI3.out.2.2
        rw [right_empty] at hr
        have HR := Lib.hid hr
        have x0 := cell_at HX3.out (i := 0) rfl
        have x1 := cell_at HX3.out (i := 1) rfl
        have x2 := cell_at HX3.out (i := 2) rfl
        clear hb hr HB3 HI2 HX
        go_wp2_with (first
          | (go_at_call 14; refine HR.out.mono ?_; rintro e w5 ⟨rfl, hb⟩; (have HX5 := Lib.hid (block_kept hb HX3.out)); (have HI5 := Lib.hid (HI3.out.below hb)); (have HB5 := Lib.hid (below_next HB4.out hb)); (have x0 := cell_at HX5.out (i := 0) rfl); (have x1 := cell_at HX5.out (i := 1) rfl); (have x2 := cell_at HX5.out (i := 2) rfl); (have HPR := Lib.hid (print_any _ _ _ _ _ w5 (HE.out.below HB5.out HE.out.size) HI5.out.1 HI5.out.2.1 HI5.out.2.2 (by rw [print_empty]; decide))); clear hb HX3 HI3 HB4 HR)
          | (go_at_call 15; rw [print_empty] at HPR; refine HPR.out.mono ?_; rintro e w6 ⟨rfl, hb⟩; (have HB6 := Lib.hid (below_next HB5.out hb)); clear hb HPR))
        go_ret
        exact ⟨rfl, HB6.out⟩
    · have HK : Hid ((xs.take k).length ≤ 60) := Lib.hid (by rw [List.length_take]; omega)
      have hq := reads_ok _ _ wr HE2.out (by have := blankP_len (xs.take k); have := HK.out; omega) (parse_blank _ HK.out)
      rw [← hs.out] at hq
      have HPQ := Lib.hid hq
      clear hq hs
      go_wp2_with (go_at_call 18; refine HPQ.out.mono ?_; rintro e w2 ⟨⟨DA, Dc, HA, Hc, SA, Sc, rfl, hi, _⟩, hb⟩; (have HI := Lib.hid hi); (have HB2 := Lib.hid (below_next HB1.out hb)); clear hi hb HPQ)
      have hbe := Below.refl w2.heap.size w2 |>.alloc (Nat.le_refl _) (.cells #[.slice DA 0 Dc, .slice HA 0 Hc, .slice SA 0 Sc] 26)
      have HX := Lib.hid (heap_alloc_new w2 (.cells #[.slice DA 0 Dc, .slice HA 0 Hc, .slice SA 0 Sc] 26))
      have HI2 := Lib.hid (HI.out.below hbe)
      have HB3 := Lib.hid (below_next HB2.out hbe)
      clear HI HB2 hbe
      generalize w2.alloc (.cells #[.slice DA 0 Dc, .slice HA 0 Hc, .slice SA 0 Sc] 26) = W at *
      refine (same_any _ _ _ _ _ _ _ _ Any W HI2.out (InsAt.nil W Any)).mono ?_
      rintro e w3 ⟨rfl, hb⟩
      have HI3 := Lib.hid (HI2.out.below hb)
      have HB4 := Lib.hid (below_next HB3.out hb)
      have HX3 := Lib.hid (block_kept hb HX.out)
      have hr := right_any _ _ _ _ _ w3 HI3.out.1 HI3.out.2.1 HI3.out.2.2
      rw [right_empty] at hr
      have HR := Lib.hid hr
      have x0 := cell_at HX3.out (i := 0) rfl
      have x1 := cell_at HX3.out (i := 1) rfl
      have x2 := cell_at HX3.out (i := 2) rfl
      clear hb hr HB3 HI2 HX
      go_wp2_with (first
        | (go_at_call 14; refine HR.out.mono ?_; rintro e w5 ⟨rfl, hb⟩; (have HX5 := Lib.hid (block_kept hb HX3.out)); (have HI5 := Lib.hid (HI3.out.below hb)); (have HB5 := Lib.hid (below_next HB4.out hb)); (have x0 := cell_at HX5.out (i := 0) rfl); (have x1 := cell_at HX5.out (i := 1) rfl); (have x2 := cell_at HX5.out (i := 2) rfl); (have HPR := Lib.hid (print_any _ _ _ _ _ w5 (HE.out.below HB5.out HE.out.size) HI5.out.1 HI5.out.2.1 HI5.out.2.2 (by rw [print_empty]; decide))); clear hb HX3 HI3 HB4 HR)
        | (go_at_call 15; rw [print_empty] at HPR; refine HPR.out.mono ?_; rintro e w6 ⟨rfl, hb⟩; (have HB6 := Lib.hid (below_next HB5.out hb)); clear hb HPR))
      go_ret
      exact ⟨rfl, HB6.out⟩
end Go.Proofs.YtoahaigfjfeopaaGreatDoor

/- arboristref06.Number. -/
namespace Go.Proofs.YtoahaigfjfeopaaGreatDoor
open Go.RowKit
attribute [local irreducible] wpStill wpLex Calls

theorem dec_big {u : Nat} (h : ¬ u < 10) : Lib.decDigits u = Lib.decDigits (u / 10) ++ [UInt8.ofNat (48 + u % 10)] := by rw [Lib.decDigits, dif_neg h]
theorem digit_text (u : Nat) (w : World) : (convert 39 9 (.slice (some ⟨w.heap.size, 0, none⟩) 1 1)).run Tryz.prog (w.alloc (.cells #[.int .u8 (48 + (u : Int) % 10)] 5)) = .ok (.string ⟨#[UInt8.ofNat (48 + u % 10)]⟩) (w.alloc (.cells #[.int .u8 (48 + (u : Int) % 10)] 5)) := by
  refine run_convert_bytes_back _ 39 9 5 ⟨w.heap.size, 0, none⟩ 1 [UInt8.ofNat (48 + u % 10)] Tryz.underlying39 Tryz.underlying5 Tryz.underlying9 (fun j hj => ?_)
  have hj0 : j = 0 := by simp at hj; exact hj
  subst hj0
  have hc := cell_at (heap_alloc_new w (.cells #[.int .u8 (48 + (u : Int) % 10)] 5)) (i := 0) rfl
  have e : ((UInt8.ofNat (48 + u % 10)).toNat : Int) = 48 + (u : Int) % 10 := by
    rw [UInt8.toNat_ofNat']
    omega
  simp only [List.getElem_cons_zero, e]
  exact hc
set_option maxRecDepth 100000 in
theorem refnum_nat : ∀ (u : Nat) (w : World), u ≤ 9223372036854775807 →
    Calls Tryz.prog 20 #[.int .i64 u] w fun e w' => e = .returned (.string ⟨(Lib.decDigits u).toArray⟩) ∧ Below w.heap.size w w' := by
  intro u
  induction u using Nat.strongRecOn with
  | ind u ih =>
  intro w hu
  have hcv := digit_text u w
  obtain ⟨ch, hch⟩ : ∃ ch, ch = UInt8.ofNat (48 + u % 10) := ⟨_, rfl⟩
  rw [← hch] at hcv
  have HCH := Lib.hid hch
  clear hch
  have hb0 := Lib.hid (below_alloc1 w (.cells #[.int .u8 (48 + (u : Int) % 10)] 5))
  have hsz := Lib.hid (Nat.le_refl w.heap.size)
  by_cases h : u < 10
  · have hd := Lib.hid (Lib.decDigits_one h)
    have hm := Lib.hid (Nat.mod_eq_of_lt h)
    clear ih
    go_enter Tryz.func20, Tryz.ntmps20
    go_wp2
    go_ret
    exact ⟨ret_str (by rw [hd.out, HCH.out, hm.out]), hb0.out⟩
  · have hc := Lib.hid (ih (u / 10) (by omega) (w.alloc (.cells #[.int .u8 (48 + (u : Int) % 10)] 5)) (by omega))
    have hd := Lib.hid (dec_big h)
    have hl := Lib.hid (show (Lib.decDigits (u / 10)).length ≤ 20 by rw [Lib.decDigits_length]; exact Lib.nDigits_le20 _ (by omega))
    have hlen : (ByteArray.mk (Lib.decDigits (u / 10)).toArray).size ≤ 20 := by rw [size_mk]; exact hl.out
    have HA := Lib.hid (ba_app (Lib.decDigits (u / 10)) [ch])
    clear ih
    have e10 : ((u / 10 : Nat) : Int) = (u : Int) / 10 := by omega
    rw [e10] at hc
    clear e10
    go_enter Tryz.func20, Tryz.ntmps20
    generalize (ByteArray.mk (Lib.decDigits (u / 10)).toArray) = sb at *
    go_wp2_with (go_at_call 20; refine hc.out.mono ?_; rintro e w' ⟨rfl, hb⟩; (have hb1 := Lib.hid (below_next hb0.out hb)); clear hb)
    go_ret
    exact ⟨ret_str (by rw [hd.out, ← HCH.out]; exact HA.out), hb1.out⟩
theorem refnum_any (n : Int) (w : World) (h0 : -9223372036854775808 < n) (h1 : n ≤ 9223372036854775807) :
    Calls Tryz.prog 20 #[.int .i64 n] w fun e w' => e = .returned (.string ⟨(Lib.itoa n).toArray⟩) ∧ Below w.heap.size w w' := by
  by_cases h : n < 0
  · have hc := refnum_nat n.natAbs w (by omega)
    have hl : (Lib.decDigits n.natAbs).length ≤ 20 := by rw [Lib.decDigits_length]; exact Lib.nDigits_le20 _ (by omega)
    have hlen : (ByteArray.mk (Lib.decDigits n.natAbs).toArray).size ≤ 20 := by rw [size_mk]; exact hl
    have HA := Lib.hid (ba_app [45] (Lib.decDigits n.natAbs))
    have HI : Hid (Lib.itoa n = 45 :: Lib.decDigits n.natAbs) := Lib.hid (by unfold Lib.itoa; rw [if_pos h])
    have e10 : ((n.natAbs : Nat) : Int) = -n := by omega
    rw [e10] at hc
    have hc' := Lib.hid hc
    clear e10 hc hl
    go_enter Tryz.func20, Tryz.ntmps20
    generalize (ByteArray.mk (Lib.decDigits n.natAbs).toArray) = sb at *
    go_wp2_with (go_at_call 20; refine hc'.out.mono ?_; rintro e w' ⟨rfl, hb⟩; (have hb1 := Lib.hid hb); clear hb)
    go_ret
    exact ⟨ret_str (by rw [HI.out]; exact HA.out), hb1.out⟩
  · have hc := refnum_nat n.toNat w (by omega)
    rw [show ((n.toNat : Nat) : Int) = n by omega] at hc
    have HI : Lib.itoa n = Lib.decDigits n.toNat := by unfold Lib.itoa; rw [if_neg h]
    rw [HI]
    exact hc
end Go.Proofs.YtoahaigfjfeopaaGreatDoor

/- As many variables, values and variables of a scope as may be: all texts tried by the kernel. -/
namespace Go.Proofs.YtoahaigfjfeopaaGreatDoor

/-- A number below a thousand, by its digits. -/
def num3 (n : Nat) : List UInt8 := if n < 10 then [UInt8.ofNat (48 + n)] else if n < 100 then [UInt8.ofNat (48 + n / 10), UInt8.ofNat (48 + n % 10)] else [UInt8.ofNat (48 + n / 100), UInt8.ofNat (48 + n / 10 % 10), UInt8.ofNat (48 + n % 10)]
theorem num3_itoa (n : Nat) (h : n < 1000) : Lib.itoa (n : Int) = num3 n := by
  have hi : Lib.itoa (n : Int) = Lib.decDigits n := by
    unfold Lib.itoa
    rw [if_neg (by omega)]
    rfl
  rw [hi]
  unfold num3
  split
  · rename_i h1; exact Lib.decDigits_one h1
  · rename_i h1
    split
    · rename_i h2; exact Lib.decDigits_two h1 h2
    · rename_i h2
      rw [Lib.decDigits, dif_neg h1, Lib.decDigits_two (by omega) (by omega), show n / 10 / 10 = n / 100 by omega]
      rfl
def vars1 : Nat → List UInt8
  | 0 => []
  | n + 1 => vars1 n ++ [118, 97, 114, 32, 49, 59]
def vals1 : Nat → List UInt8
  | 0 => [118, 97, 114]
  | n + 1 => vals1 n ++ ([32] ++ num3 (100 + n))
def scope1 : Nat → List UInt8
  | 0 => [100, 105, 102, 102]
  | n + 1 => scope1 n ++ ([32] ++ num3 n)
/-- What Parse tells of a text: where, and what. -/
def codeP (r : Except (Int × Int) Ins) : Int × Int := match r with | .ok _ => (0, 0) | .error e => e
def many1 (n : Nat) : Bool := codeP (parseP (vars1 n)) == (if n ≤ 40 then (0, 0) else (240, 7))
def many2 (n : Nat) : Bool := codeP (parseP (vals1 n ++ [59])) == (if n ≤ 16 then (0, 0) else (68, 7))
def many3 (n : Nat) : Bool := codeP (parseP (vars1 (min n 40) ++ scope1 n ++ [59])) == (if n ≤ 6 then (0, 0) else (((6 * min n 40 + 17 : Nat) : Int), 7))
def manyAll (n : Nat) : Bool := n == 0 || many1 n && many2 n && many3 n
theorem many_tried : (List.range 51).all manyAll = true := by kernel_rfl
theorem many_ok (n : Nat) (h0 : 1 ≤ n) (h : n ≤ 50) : codeP (parseP (vars1 n)) = (if n ≤ 40 then (0, 0) else (240, 7)) ∧ codeP (parseP (vals1 n ++ [59])) = (if n ≤ 16 then (0, 0) else (68, 7)) ∧ codeP (parseP (vars1 (min n 40) ++ scope1 n ++ [59])) = (if n ≤ 6 then (0, 0) else (((6 * min n 40 + 17 : Nat) : Int), 7)) := by
  have h1 := List.all_eq_true.1 many_tried n (List.mem_range.2 (by omega))
  unfold manyAll at h1
  rw [show (n == 0) = false by simp; omega, Bool.false_or] at h1
  simp only [Bool.and_eq_true] at h1
  exact ⟨eq_of_beq h1.1.1, eq_of_beq h1.1.2, eq_of_beq h1.2⟩
theorem vars1_len : ∀ n, (vars1 n).length = 6 * n
  | 0 => rfl
  | n + 1 => by rw [vars1, List.length_append, vars1_len n]; simp; omega
theorem num3_len (n : Nat) : (num3 n).length ≤ 3 := by
  unfold num3
  split
  · simp
  · split <;> simp
theorem vals1_len : ∀ n, (vals1 n).length ≤ 3 + 4 * n
  | 0 => Nat.le_refl _
  | n + 1 => by have := num3_len (100 + n); rw [vals1, List.length_append, List.length_append]; have := vals1_len n; simp; omega
theorem scope1_len : ∀ n, (scope1 n).length ≤ 4 + 4 * n
  | 0 => Nat.le_refl _
  | n + 1 => by have := num3_len n; rw [scope1, List.length_append, List.length_append]; have := scope1_len n; simp; omega
end Go.Proofs.YtoahaigfjfeopaaGreatDoor

/- arboristlaw06.InstMany. -/
namespace Go.Proofs.YtoahaigfjfeopaaGreatDoor
open Go.RowKit
attribute [local irreducible] wpStill wpLex Calls

theorem code_ok {r : Except (Int × Int) Ins} {a x : Int} (h : codeP r = (a, x)) : (∃ y, r = .ok y ∧ a = 0 ∧ x = 0) ∨ r = .error (a, x) := by
  cases r with
  | ok y => injection h with h1 h2; exact .inl ⟨y, rfl, h1.symm, h2.symm⟩
  | error e => exact .inr (by rw [show e = (a, x) from h])
/-- Parse, where the instance itself is of no matter. -/
theorem reads_code (l : List UInt8) (a x : Int) (w : World) (hE : Env w) (hl : l.length ≤ 140737488355328) (h : codeP (parseP l) = (a, x)) :
    Calls Tryz.prog 18 #[.string ⟨l.toArray⟩] w fun e w' => (∃ DA Dn Dc HA Hn Hc SA Sn Sc, e = .returned (.tuple #[.agg #[.slice DA Dn Dc, .slice HA Hn Hc, .slice SA Sn Sc], .int .i64 a, .int .i64 x])) ∧ Below w.heap.size w w' := by
  rcases code_ok h with ⟨y, hy, rfl, rfl⟩ | hq
  · refine (reads_ok l y w hE hl hy).mono ?_
    rintro e w' ⟨⟨DA, Dc, HA, Hc, SA, Sc, rfl, _⟩, hb⟩
    exact ⟨⟨_, _, _, _, _, _, _, _, _, rfl⟩, hb⟩
  · refine (reads_err l a x w hE hl hq).mono ?_
    rintro e w' ⟨rfl, hb⟩
    exact ⟨⟨_, _, _, _, _, _, _, _, _, rfl⟩, hb⟩
theorem low16 (n : Int) : 0 ≤ bits BinOp.and IntKind.i64 n 65535 ∧ bits BinOp.and IntKind.i64 n 65535 ≤ 65535 := by
  have h : (BitVec.ofInt 64 n &&& BitVec.ofInt 64 65535).toNat ≤ 65535 := by
    rw [BitVec.toNat_and]
    exact Nat.and_le_right
  have e : bits BinOp.and IntKind.i64 n 65535 = IntKind.i64.wrap (((BitVec.ofInt 64 n &&& BitVec.ofInt 64 65535).toNat : Nat) : Int) := rfl
  rw [e, IntWalk.i64_in _ (by omega)]
  omega
def ManyRel (m : Nat) (w1 : World) (g : Nat) (a b c i : Value) (wr : World) : Prop :=
  ∃ k : Nat, ∃ sa sb sc : ByteArray, i = .int .i64 k ∧ k ≤ m ∧ a = .string sa ∧ b = .string sb ∧ c = .string sc ∧ Hid (sa = ⟨(vars1 k).toArray⟩) ∧ Hid (sb = ⟨(vals1 k).toArray⟩) ∧ Hid (sc = ⟨(scope1 k).toArray⟩) ∧ sa.size ≤ 6 * k ∧ sb.size ≤ 3 + 4 * k ∧ sc.size ≤ 4 + 4 * k ∧ Below w1.heap.size w1 wr ∧ g = m - k
def VarsRel (q : Nat) (w : World) (g : Nat) (a i : Value) (wr : World) : Prop :=
  ∃ j : Nat, ∃ sa : ByteArray, i = .int .i64 j ∧ j ≤ q ∧ a = .string sa ∧ Hid (sa = ⟨(vars1 j).toArray⟩) ∧ sa.size = 6 * j ∧ wr = w ∧ g = q - j
set_option maxRecDepth 100000 in
set_option maxHeartbeats 4000000 in
theorem many_any (n : Int) (w : World) (hE : Env w) :
    Calls Tryz.prog 9 #[.int .i64 n] w fun e w' => e = .returned (.bool true) ∧ Below w.heap.size w w' := by
  have HS := Lib.hid (shown_any w hE)
  have HE := Lib.hid hE
  clear hE
  go_enter Tryz.func9, Tryz.ntmps9
  go_wp2_with (go_at_call 11; refine HS.out.mono ?_; rintro e w1 ⟨rfl, hb⟩; (have HB1 := Lib.hid hb); (have HE2 := Lib.hid (HE.out.below hb HE.out.size)); clear hb HS)
  have hlow := low16 n
  generalize bits BinOp.and IntKind.i64 n 65535 = B at *
  obtain ⟨hl0, hl1⟩ := hlow
  obtain ⟨m, hm, hm1, hm2⟩ : ∃ m : Nat, wrap64 (1 + B.tmod 50) = m ∧ 1 ≤ m ∧ m ≤ 50 := by
    have ht1 := Int.tmod_nonneg 50 hl0
    have ht2 := Int.tmod_lt_of_pos B (show (0 : Int) < 50 by decide)
    refine ⟨(1 + B.tmod 50).toNat, ?_, by omega, by omega⟩
    rw [show wrap64 (1 + B.tmod 50) = 1 + B.tmod 50 by unfold wrap64; omega]
    omega
  generalize wrap64 (1 + B.tmod 50) = M at *
  generalize B.tmod 50 = B5 at *
  subst hm
  clear hl0 hl1
  go_loopg [4, 5, 6, 7] m (fun g a b c i wr => ManyRel m w1 g a b c i wr)
  case atStart => exact ⟨0, _, _, _, rfl, by omega, rfl, rfl, rfl, Lib.hid rfl, Lib.hid rfl, Lib.hid rfl, Nat.le_refl _, Nat.le_refl _, Nat.le_refl _, Below.refl _ _, rfl⟩
  case round =>
    obtain ⟨k, sa, sb, sc, rfl, hk, rfl, rfl, rfl, ha, hb, hc, la, lb, lc, hbw, hg⟩ := hrel
    have HG := Lib.hid hg
    have HBW := Lib.hid hbw
    clear hg hbw
    by_cases hlt : k < m
    · have hn1 := Lib.hid (fun W => refnum_any (100 + (k : Int)) W (by omega) (by omega))
      have hn2 := Lib.hid (fun W => refnum_any (k : Int) W (by omega) (by omega))
      have HI1 : Hid (Lib.itoa (100 + (k : Int)) = num3 (100 + k)) := Lib.hid (by rw [← num3_itoa (100 + k) (by omega)]; congr 1)
      have HI2 : Hid (Lib.itoa (k : Int) = num3 k) := Lib.hid (num3_itoa k (by omega))
      rw [HI1.out] at hn1
      rw [HI2.out] at hn2
      have HA : Hid (sa ++ ⟨#[118, 97, 114, 32, 49, 59]⟩ = ⟨(vars1 (k + 1)).toArray⟩) := Lib.hid (by rw [ha.out]; exact ba_app _ _)
      have HBB : Hid (sb ++ ⟨#[32]⟩ ++ ⟨(num3 (100 + k)).toArray⟩ = ⟨(vals1 (k + 1)).toArray⟩) := Lib.hid (by rw [hb.out, show (⟨#[32]⟩ : ByteArray) = ⟨[32].toArray⟩ from rfl, ba_app, ba_app, vals1, List.append_assoc])
      have HCC : Hid (sc ++ ⟨#[32]⟩ ++ ⟨(num3 k).toArray⟩ = ⟨(scope1 (k + 1)).toArray⟩) := Lib.hid (by rw [hc.out, show (⟨#[32]⟩ : ByteArray) = ⟨[32].toArray⟩ from rfl, ba_app, ba_app, scope1, List.append_assoc])
      have l1 : (ByteArray.mk (num3 (100 + k)).toArray).size ≤ 3 := by rw [size_mk]; exact num3_len _
      have l2 : (ByteArray.mk (num3 k).toArray).size ≤ 3 := by rw [size_mk]; exact num3_len _
      generalize (ByteArray.mk (num3 (100 + k)).toArray) = d1 at *
      generalize (ByteArray.mk (num3 k).toArray) = d2 at *
      clear ha hb hc HI1 HI2
      go_wp2_with (first
        | (go_at_call 20; refine (hn1.out _).mono ?_; rintro e w2 ⟨rfl, hb⟩; (have HBW2 := Lib.hid (below_next HBW.out hb)); clear hb HBW hn1)
        | (go_at_call 20; refine (hn2.out _).mono ?_; rintro e w3 ⟨rfl, hb⟩; (have HBW3 := Lib.hid (below_next HBW2.out hb)); clear hb HBW2 hn2))
      go_roundg (m - (k + 1))
      case rel => exact ⟨k + 1, _, _, _, by go_num, by omega, rfl, rfl, rfl, HA, HBB, HCC, by have : (ByteArray.mk #[118, 97, 114, 32, 49, 59]).size = 6 := rfl; rw [ByteArray.size_append]; omega, by have : (ByteArray.mk #[32]).size = 1 := rfl; rw [ByteArray.size_append, ByteArray.size_append]; omega, by have : (ByteArray.mk #[32]).size = 1 := rfl; rw [ByteArray.size_append, ByteArray.size_append]; omega, HBW3.out, rfl⟩
      case measure => have := HG.out; omega
    · obtain rfl : k = m := by omega
      obtain ⟨q1, q2, q3⟩ := many_ok k hm1 hm2
      obtain ⟨a1, x1, e1, f1⟩ : ∃ a1 x1, (a1, x1) = (if k ≤ 40 then ((0 : Int), (0 : Int)) else (240, 7)) ∧ ((k ≤ 40 ∧ a1 = 0 ∧ x1 = 0) ∨ (40 < k ∧ a1 = 240 ∧ x1 = 7)) := by
        by_cases h : k ≤ 40
        · exact ⟨0, 0, by rw [if_pos h], .inl ⟨h, rfl, rfl⟩⟩
        · exact ⟨240, 7, by rw [if_neg h], .inr ⟨by omega, rfl, rfl⟩⟩
      obtain ⟨a2, x2, e2, f2⟩ : ∃ a1 x1, (a1, x1) = (if k ≤ 16 then ((0 : Int), (0 : Int)) else (68, 7)) ∧ ((k ≤ 16 ∧ a1 = 0 ∧ x1 = 0) ∨ (16 < k ∧ a1 = 68 ∧ x1 = 7)) := by
        by_cases h : k ≤ 16
        · exact ⟨0, 0, by rw [if_pos h], .inl ⟨h, rfl, rfl⟩⟩
        · exact ⟨68, 7, by rw [if_neg h], .inr ⟨by omega, rfl, rfl⟩⟩
      obtain ⟨a3, x3, e3, f3⟩ : ∃ a1 x1, (a1, x1) = (if k ≤ 6 then ((0 : Int), (0 : Int)) else (((6 * min k 40 + 17 : Nat) : Int), 7)) ∧ ((k ≤ 6 ∧ a1 = 0 ∧ x1 = 0) ∨ (6 < k ∧ a1 = ((6 * min k 40 + 17 : Nat) : Int) ∧ x1 = 7)) := by
        by_cases h : k ≤ 6
        · exact ⟨0, 0, by rw [if_pos h], .inl ⟨h, rfl, rfl⟩⟩
        · exact ⟨_, 7, by rw [if_neg h], .inr ⟨by omega, rfl, rfl⟩⟩
      rw [← e1] at q1
      rw [← e2] at q2
      rw [← e3] at q3
      have F1 := Lib.hid f1
      have F2 := Lib.hid f2
      have F3 := Lib.hid f3
      have Q2 := Lib.hid q2
      have Q3 := Lib.hid q3
      have HBW1 := Lib.hid (below_next HB1.out HBW.out)
      have hr := reads_code _ _ _ wr (HE.out.below HBW1.out HE.out.size) (by rw [vars1_len]; omega) q1
      rw [← ha.out] at hr
      have HR := Lib.hid hr
      clear e1 e2 e3 f1 f2 f3 q1 q2 q3 hr HBW HE2
      go_wp2_with (go_at_call 18; refine HR.out.mono ?_; rintro e w2 ⟨⟨DA, Dn, Dc, HA, Hn, Hc, SA, Sn, Sc, rfl⟩, hb⟩; (have HB2 := Lib.hid (below_next HBW1.out hb)); clear hb HR HBW1)
      have hb2 := HB2.out.alloc HB2.out.size (.cells #[.slice DA Dn Dc, .slice HA Hn Hc, .slice SA Sn Sc] 26)
      have hr := reads_code _ _ _ (w2.alloc (.cells #[.slice DA Dn Dc, .slice HA Hn Hc, .slice SA Sn Sc] 26)) (HE.out.below hb2 HE.out.size) (by rw [List.length_append]; have := vals1_len k; simp; omega) Q2.out
      rw [← ba_app, ← hb.out] at hr
      have HR := Lib.hid hr
      have HB3 := Lib.hid hb2
      clear hr hb2 HB2
      generalize w2.alloc (.cells #[.slice DA Dn Dc, .slice HA Hn Hc, .slice SA Sn Sc] 26) = W2 at *
      refine HR.out.mono ?_
      rintro e w3 ⟨⟨DA3, Dn3, Dc3, HA3, Hn3, Hc3, SA3, Sn3, Sc3, rfl⟩, hb3⟩
      have hb4 := (below_next HB3.out hb3).alloc (below_next HB3.out hb3).size (.cells #[.slice DA3 Dn3 Dc3, .slice HA3 Hn3 Hc3, .slice SA3 Sn3 Sc3] 26)
      have HB4 := Lib.hid hb4
      clear hb3 hb4 HR HB3
      go_wp2_with fail
      generalize w3.alloc (.cells #[.slice DA3 Dn3 Dc3, .slice HA3 Hn3 Hc3, .slice SA3 Sn3 Sc3] 26) = W3 at *
      clear ha
      obtain ⟨q, hq, hq4, hqk⟩ : ∃ q : Nat, min k 40 = q ∧ q ≤ 40 ∧ q ≤ k := ⟨_, rfl, by omega, by omega⟩
      have HQ := Lib.hid hq
      go_loopg [4, 14] q (fun g a i wr => VarsRel q W3 g a i wr)
      case atStart => exact ⟨0, _, rfl, by omega, rfl, Lib.hid rfl, rfl, rfl, rfl⟩
      case round =>
        obtain ⟨j, sv, rfl, hj, rfl, hv, lv, rfl, hg⟩ := hrel
        have HG := Lib.hid hg
        clear hg hq
        by_cases hjq : j < q
        · have HA : Hid (sv ++ ⟨#[118, 97, 114, 32, 49, 59]⟩ = ⟨(vars1 (j + 1)).toArray⟩) := Lib.hid (by rw [hv.out]; exact ba_app _ _)
          go_wp2
          go_roundg (q - (j + 1))
          case rel => exact ⟨j + 1, _, by go_num, by omega, rfl, HA, by have : (ByteArray.mk #[118, 97, 114, 32, 49, 59]).size = 6 := rfl; rw [ByteArray.size_append]; omega, rfl, rfl⟩
          case measure => have := HG.out; omega
        · obtain rfl : j = q := by omega
          have hr := reads_code _ _ _ wr (HE.out.below HB4.out HE.out.size) (by rw [List.length_append, List.length_append, vars1_len]; have := scope1_len k; simp; omega) Q3.out
          rw [HQ.out, ← ba_app, ← ba_app, ← hc.out, ← hv.out] at hr
          have HR := Lib.hid hr
          have hf3 := F3.out
          rw [HQ.out] at hf3
          have F4 := Lib.hid hf3
          clear hr hv hb hc hf3 F3 Q2 Q3 la lb
          have hsv : (sv.size : Int) = 6 * (j : Int) := by omega
          rcases F1.out with ⟨g1, rfl, rfl⟩ | ⟨g1, rfl, rfl⟩ <;> rcases F2.out with ⟨g2, rfl, rfl⟩ | ⟨g2, rfl, rfl⟩ <;> rcases F4.out with ⟨g3, rfl, rfl⟩ | ⟨g3, rfl, rfl⟩
          all_goals first
            | (exfalso; omega)
            | skip
          · have hb3 : (((6 * j + 17 : Nat) : Int) == 6 * (j : Int) + 5 + 12) = true := by simp; omega
            first
              | (have hx : k ≤ j := by (have := HQ.out; omega))
              | (have hx : 40 ≤ j := by (have := HQ.out; omega))
            clear F1 F2 F4
            go_wp2_with (go_at_call 18; refine HR.out.mono ?_; rintro e w4 ⟨⟨DA4, Dn4, Dc4, HA4, Hn4, Hc4, SA4, Sn4, Sc4, rfl⟩, hb⟩; (have HB5 := Lib.hid ((below_next HB4.out hb).alloc (below_next HB4.out hb).size (.cells #[.slice DA4 Dn4 Dc4, .slice HA4 Hn4 Hc4, .slice SA4 Sn4 Sc4] 26))); clear hb HR HB4)
            go_ret
            exact ⟨ret_bool (by first | rfl | (simp; done) | (simp; omega)), HB5.out⟩
          · have hb3 : (((6 * j + 17 : Nat) : Int) == 6 * (j : Int) + 5 + 12) = true := by simp; omega
            first
              | (have hx : k ≤ j := by (have := HQ.out; omega))
              | (have hx : 40 ≤ j := by (have := HQ.out; omega))
            clear F1 F2 F4
            go_wp2_with (go_at_call 18; refine HR.out.mono ?_; rintro e w4 ⟨⟨DA4, Dn4, Dc4, HA4, Hn4, Hc4, SA4, Sn4, Sc4, rfl⟩, hb⟩; (have HB5 := Lib.hid ((below_next HB4.out hb).alloc (below_next HB4.out hb).size (.cells #[.slice DA4 Dn4 Dc4, .slice HA4 Hn4 Hc4, .slice SA4 Sn4 Sc4] 26))); clear hb HR HB4)
            go_ret
            exact ⟨ret_bool (by first | rfl | (simp; done) | (simp; omega)), HB5.out⟩
          · have hb3 : (((6 * j + 17 : Nat) : Int) == 6 * (j : Int) + 5 + 12) = true := by simp; omega
            first
              | (have hx : k ≤ j := by (have := HQ.out; omega))
              | (have hx : 40 ≤ j := by (have := HQ.out; omega))
            clear F1 F2 F4
            go_wp2_with (go_at_call 18; refine HR.out.mono ?_; rintro e w4 ⟨⟨DA4, Dn4, Dc4, HA4, Hn4, Hc4, SA4, Sn4, Sc4, rfl⟩, hb⟩; (have HB5 := Lib.hid ((below_next HB4.out hb).alloc (below_next HB4.out hb).size (.cells #[.slice DA4 Dn4 Dc4, .slice HA4 Hn4 Hc4, .slice SA4 Sn4 Sc4] 26))); clear hb HR HB4)
            go_ret
            exact ⟨ret_bool (by first | rfl | (simp; done) | (simp; omega)), HB5.out⟩
          · have hb3 : (((6 * j + 17 : Nat) : Int) == 6 * (j : Int) + 5 + 12) = true := by simp; omega
            first
              | (have hx : k ≤ j := by (have := HQ.out; omega))
              | (have hx : 40 ≤ j := by (have := HQ.out; omega))
            clear F1 F2 F4
            go_wp2_with (go_at_call 18; refine HR.out.mono ?_; rintro e w4 ⟨⟨DA4, Dn4, Dc4, HA4, Hn4, Hc4, SA4, Sn4, Sc4, rfl⟩, hb⟩; (have HB5 := Lib.hid ((below_next HB4.out hb).alloc (below_next HB4.out hb).size (.cells #[.slice DA4 Dn4 Dc4, .slice HA4 Hn4 Hc4, .slice SA4 Sn4 Sc4] 26))); clear hb HR HB4)
            go_ret
            exact ⟨ret_bool (by first | rfl | (simp; done) | (simp; omega)), HB5.out⟩
end Go.Proofs.YtoahaigfjfeopaaGreatDoor

/- A number's text, and the number that it is read as. -/
namespace Go.Proofs.YtoahaigfjfeopaaGreatDoor

theorem uintM_append (M : Nat) : ∀ (a b : List UInt8) (acc v : Nat), Lib.parseUintM M acc a = .ok v → Lib.parseUintM M acc (a ++ b) = Lib.parseUintM M v b
  | [], b, acc, v, h => by
    injection h with h
    rw [h]; rfl
  | c :: a, b, acc, v, h => by
    rw [Lib.parseUintM] at h
    rw [List.cons_append, Lib.parseUintM]
    split at h
    · rename_i h1
      rw [if_pos h1]
      split at h
      · cases h
      · rename_i h2
        rw [if_neg h2]
        split at h
        · cases h
        · rename_i h3
          rw [if_neg h3]
          exact uintM_append M a b _ v h
    · cases h
theorem uintM_one (M acc d : Nat) (hd : d < 10) (h1 : acc < 1844674407370955162) (h2 : acc * 10 + d ≤ M) : Lib.parseUintM M acc [UInt8.ofNat (48 + d)] = .ok (acc * 10 + d) := by
  have e : (UInt8.ofNat (48 + d)).toNat = 48 + d := by rw [UInt8.toNat_ofNat']; omega
  rw [Lib.parseUintM, e, if_pos (by omega), if_neg (by omega), show 48 + d - 48 = d by omega, if_neg (by omega)]
  rfl
theorem uintM_dec (M : Nat) (hM : 1000000000000 ≤ M) : ∀ (u : Nat), u ≤ 1000000000000 → Lib.parseUintM M 0 (Lib.decDigits u) = .ok u := by
  intro u
  induction u using Nat.strongRecOn with
  | ind u ih =>
  intro hu
  by_cases h : u < 10
  · rw [Lib.decDigits_one h, uintM_one M 0 u h (by omega) (by omega)]
    congr 1; omega
  · rw [Lib.decDigits, dif_neg h, uintM_append M _ _ 0 (u / 10) (ih (u / 10) (by omega) (by omega)), uintM_one M (u / 10) (u % 10) (by omega) (by omega) (by omega)]
    congr 1; omega
theorem dec_digits : ∀ (u : Nat), ∀ c ∈ Lib.decDigits u, isDigit c = true := by
  intro u
  induction u using Nat.strongRecOn with
  | ind u ih =>
  by_cases h : u < 10
  · rw [Lib.decDigits_one h]
    intro c hc
    rw [List.mem_singleton] at hc
    subst hc
    have e : (UInt8.ofNat (48 + u)).toNat = 48 + u := by rw [UInt8.toNat_ofNat']; omega
    simp [isDigit]; omega
  · rw [Lib.decDigits, dif_neg h]
    intro c hc
    rcases List.mem_append.1 hc with hc | hc
    · exact ih (u / 10) (by omega) c hc
    · rw [List.mem_singleton] at hc
      subst hc
      have e : (UInt8.ofNat (48 + u % 10)).toNat = 48 + u % 10 := by rw [UInt8.toNat_ofNat']; omega
      simp [isDigit]; omega
theorem dec_ne (u : Nat) : Lib.decDigits u ≠ [] := by
  intro h
  have := Lib.decDigits_length u
  have := Lib.nDigits_pos u
  rw [h] at *
  simp at *
  omega
theorem head_app {a b : List UInt8} (h : a ≠ []) : (a ++ b).head? = a.head? := by
  cases a with
  | nil => exact absurd rfl h
  | cons c r => rfl
theorem dec_head : ∀ (u : Nat), (Lib.decDigits u).head? = some 48 → u = 0 := by
  intro u
  induction u using Nat.strongRecOn with
  | ind u ih =>
  intro hh
  by_cases h : u < 10
  · rw [Lib.decDigits_one h] at hh
    injection hh with hh
    have e : (UInt8.ofNat (48 + u)).toNat = 48 + u := by rw [UInt8.toNat_ofNat']; omega
    rw [hh] at e
    have : (48 : UInt8).toNat = 48 := rfl
    omega
  · rw [Lib.decDigits, dif_neg h, head_app (dec_ne _)] at hh
    have := ih (u / 10) (by omega) hh
    omega
theorem run_all (p : UInt8 → Bool) : ∀ (a r : List UInt8), (∀ c ∈ a, p c = true) → (∀ c, r.head? = some c → p c = false) → runP p (a ++ r) = a.length
  | [], [], _, _ => rfl
  | [], c :: r, _, h => by
    show runP p (c :: r) = 0
    rw [runP, h c rfl]; rfl
  | c :: a, r, h, h2 => by
    rw [List.cons_append, runP, if_pos (h c (List.mem_cons_self ..)), run_all p a r (fun d hd => h d (List.mem_cons_of_mem _ hd)) h2]; rfl
theorem run_mem (p : UInt8 → Bool) : ∀ (l : List UInt8), ∀ c ∈ l.take (runP p l), p c = true
  | [], c, h => by simp at h
  | d :: r, c, h => by
    rw [runP] at h
    split at h
    · rename_i hd
      rw [List.take_succ_cons] at h
      rcases List.mem_cons.1 h with rfl | h
      · exact hd
      · exact run_mem p r c h
    · simp at h
/-- What the numeral of a number that fits is read as. -/
theorem numP_itoa (n : Int) (h0 : -1000000000000 ≤ n) (h1 : n ≤ 1000000000000) (r : List UInt8) (hr : ∀ c, r.head? = some c → isDigit c = false) : numP (Lib.itoa n ++ r) = .ok (n, (Lib.itoa n).length) := by
  by_cases hn : n < 0
  · have hi : Lib.itoa n = 45 :: Lib.decDigits n.natAbs := by unfold Lib.itoa; rw [if_pos hn]
    rw [hi]
    unfold numP
    have hrun := run_all isDigit (Lib.decDigits n.natAbs) r (dec_digits _) hr
    have htk : ((45 :: Lib.decDigits n.natAbs ++ r).drop 1).take (runP isDigit ((45 :: Lib.decDigits n.natAbs ++ r).drop 1)) = Lib.decDigits n.natAbs := by
      rw [List.cons_append, List.drop_one, List.tail_cons, hrun, List.take_left]
    have hp : Lib.parseIntB 64 (45 :: Lib.decDigits n.natAbs) = .ok n := by
      rw [Lib.parseIntB_minus, Lib.parseUintB, if_neg (dec_ne _), uintM_dec _ (by decide) _ (by omega)]
      simp only [Lib.signedC]
      rw [if_neg (by omega)]
      congr 1; omega
    dsimp only
    rw [show (45 :: Lib.decDigits n.natAbs ++ r).head? = some 45 from rfl, if_pos rfl, htk]
    rw [if_neg (by
      rintro (h | h)
      · exact dec_ne _ h
      · have := dec_head _ h.1; omega)]
    rw [show (45 :: Lib.decDigits n.natAbs ++ r).take (1 + (Lib.decDigits n.natAbs).length) = 45 :: Lib.decDigits n.natAbs by
      rw [List.cons_append, Nat.add_comm, List.take_succ_cons, List.take_left]]
    rw [hp]
    simp only
    rw [if_neg (by omega), List.length_cons, Nat.add_comm]
  · have hi : Lib.itoa n = Lib.decDigits n.toNat := by unfold Lib.itoa; rw [if_neg hn]
    rw [hi]
    unfold numP
    have hrun := run_all isDigit (Lib.decDigits n.toNat) r (dec_digits _) hr
    have hne := dec_ne n.toNat
    have hd0 := dec_digits n.toNat
    have hh := dec_head n.toNat
    have hlen := Lib.decDigits_length n.toNat
    have hp : Lib.parseIntB 64 (Lib.decDigits n.toNat) = .ok n := by
      have hu := uintM_dec (2 ^ 64 - 1) (by decide) n.toNat (by omega)
      cases hc : Lib.decDigits n.toNat with
      | nil => exact absurd hc hne
      | cons c q =>
        have hcd := hd0 c (by rw [hc]; exact List.mem_cons_self ..)
        simp only [isDigit, Bool.and_eq_true, decide_eq_true_eq] at hcd
        rw [hc] at hu
        rw [Lib.parseIntB_plain 64 c q (by omega) (by omega), Lib.parseUintB, if_neg (by simp), hu]
        simp only [Lib.signlessC]
        rw [if_neg (by omega)]
        congr 1; omega
    have hhd : ¬ (Lib.decDigits n.toNat ++ r).head? = some 45 := by
      rw [head_app hne]
      intro e
      have := hd0 45 (List.mem_of_head? e)
      simp [isDigit] at this
    dsimp only
    rw [if_neg hhd, List.drop_zero, hrun, List.take_left, if_neg (by
      rintro (h | h)
      · exact hne h
      · have h0 := hh h.1
        rw [h0] at hlen
        rw [Lib.nDigits_small (by omega)] at hlen
        rw [h0] at h
        omega), Nat.zero_add, List.take_left, hp]
    simp only
    rw [if_neg (by omega)]
end Go.Proofs.YtoahaigfjfeopaaGreatDoor

/- The tokens of a printed instance. -/
namespace Go.Proofs.YtoahaigfjfeopaaGreatDoor

/-- A token without its place. -/
def er (t : Tok) : Tok := { t with at_ := 0 }
def nT (n : Int) : Tok := ⟨2, [], n, 0⟩
def wT (s : List UInt8) : Tok := ⟨1, s, 0, 0⟩
def sT (c : UInt8) : Tok := ⟨3, [c], 0, 0⟩
def eT : Tok := ⟨4, [], 0, 0⟩
/-- A text's tokens, wherever it stands. -/
def Scan (l : List UInt8) (us : List Tok) : Prop := ∀ a, ∃ ts, scanQ a l = .ok ts ∧ ts.map er = us
/-- Behind it no word and no number goes on. -/
def Brk (r : List UInt8) : Prop := ∀ c, r.head? = some c → isDigit c = false ∧ isLetter c = false
theorem Scan.nil : Scan [] [eT] := fun a => ⟨_, scanQ_nil a, rfl⟩
theorem Brk.nil : Brk [] := fun c h => by simp at h
theorem Brk.cons {c : UInt8} {r : List UInt8} (h : isDigit c = false ∧ isLetter c = false) : Brk (c :: r) := fun d hd => by injection hd with hd; rw [← hd]; exact h
theorem Scan.blank {c : UInt8} {r : List UInt8} {us : List Tok} (hc : c.toNat = 32 ∨ c.toNat = 9 ∨ c.toNat = 10) (h : Scan r us) : Scan (c :: r) us := by
  intro a
  have hl : leftP (c :: r) = 1 := by rw [leftP, if_pos hc]
  rw [scanQ_left a (c :: r) (by simp) (by omega), hl]
  exact h (a + 1)
theorem Scan.tok {l r : List UInt8} {us : List Tok} {t : Tok} {k : Nat} (hl : l ≠ []) (h0 : leftP l = 0) (ht : tokenP l = .ok (t, k)) (hd : l.drop k = r) (h : Scan r us) : Scan l (er t :: us) := by
  intro a
  obtain ⟨ts, h1, h2⟩ := h (a + k)
  refine ⟨{ t with at_ := a } :: ts, ?_, ?_⟩
  · rw [scanQ_tok a l hl (by omega) ht, hd, h1]
  · rw [List.map_cons, h2]; rfl
theorem Scan.sign {c : UInt8} {r : List UInt8} {us : List Tok} (hc : c.toNat = 58 ∨ c.toNat = 44 ∨ c.toNat = 59) (h : Scan r us) : Scan (c :: r) (sT c :: us) := by
  refine Scan.tok (t := ⟨3, [c], 0, 0⟩) (k := 1) (by simp) ?_ ?_ rfl h
  · rw [leftP, if_neg (by omega), if_neg (by omega)]
  · rw [tokenP, if_pos hc]
theorem Scan.word {w r : List UInt8} {us : List Tok} (hw : w ≠ []) (hl : ∀ c ∈ w, isLetter c = true) (hr : Brk r) (h : Scan r us) : Scan (w ++ r) (wT w :: us) := by
  have hrun := run_all isLetter w r hl (fun c hc => (hr c hc).2)
  cases w with
  | nil => exact absurd rfl hw
  | cons c q =>
    have hc := hl c (List.mem_cons_self ..)
    have hc' := hc
    simp only [isLetter, Bool.and_eq_true, decide_eq_true_eq] at hc'
    refine Scan.tok (t := ⟨1, c :: q, 0, 0⟩) (k := (c :: q).length) (by simp) ?_ ?_ (by rw [List.drop_left]) h
    · rw [List.cons_append, leftP, if_neg (by omega), if_neg (by omega)]
    · rw [List.cons_append] at hrun ⊢
      rw [tokenP, if_neg (by omega), if_pos hc, hrun, ← List.cons_append, List.take_left]
theorem itoa_head (n : Int) : ∃ c q, Lib.itoa n = c :: q ∧ (isDigit c = true ∨ c.toNat = 45) := by
  unfold Lib.itoa
  split
  · exact ⟨45, _, rfl, .inr rfl⟩
  · cases hd : Lib.decDigits n.toNat with
    | nil => exact absurd hd (dec_ne _)
    | cons c q => exact ⟨c, q, rfl, .inl (dec_digits n.toNat c (by rw [hd]; exact List.mem_cons_self ..))⟩
theorem Scan.num {n : Int} {r : List UInt8} {us : List Tok} (hn : Fit n) (hr : Brk r) (h : Scan r us) : Scan (Lib.itoa n ++ r) (nT n :: us) := by
  have hp := numP_itoa n hn.1 hn.2 r (fun c hc => (hr c hc).1)
  obtain ⟨c, q, hq, hc⟩ := itoa_head n
  have hb : 48 ≤ c.toNat ∧ c.toNat ≤ 57 ∨ c.toNat = 45 := by
    rcases hc with hc | hc
    · simp only [isDigit, Bool.and_eq_true, decide_eq_true_eq] at hc; exact .inl hc
    · exact .inr hc
  refine Scan.tok (t := ⟨2, [], n, 0⟩) (k := (Lib.itoa n).length) (by rw [hq]; simp) ?_ ?_ (by rw [List.drop_left]) h
  · rw [hq, List.cons_append, leftP, if_neg (by omega), if_neg (by omega)]
  · rw [hq, List.cons_append] at hp ⊢
    rw [tokenP, if_neg (by omega), if_neg (by simp [isLetter]; omega), if_pos hc, hp]
theorem Scan.nums : ∀ {l : List Int} {r : List UInt8} {us : List Tok}, Fits l → Brk r → Scan r us → Scan (numsP l ++ r) (l.map nT ++ us) ∧ Brk (numsP l ++ r)
  | [], r, us, _, hr, h => ⟨h, hr⟩
  | n :: l, r, us, hf, hr, h => by
    have ih := Scan.nums (l := l) (fun k hk => hf (k + 1) (by simp; omega)) hr h
    have e : numsP (n :: l) ++ r = 32 :: (Lib.itoa n ++ (numsP l ++ r)) := by simp [numsP]
    rw [e]
    exact ⟨Scan.blank (by decide) (Scan.num (hf 0 (by simp)) ih.2 ih.1), Brk.cons (by decide)⟩

/-- The tokens of rows, behind the first with a comma ahead. -/
def rowsK : Nat → List (List Int) → List Tok
  | _, [] => []
  | i, t :: r => (if 0 < i then [sT 44] else []) ++ t.map nT ++ rowsK (i + 1) r
def linK : Nat → List Int → List Int → List Tok
  | i, a :: aa, v :: vs => (if 0 < i then [sT 44] else []) ++ [nT a, nT v] ++ linK (i + 1) aa vs
  | _, _, _ => []
def hardK (c : Con) : List Tok :=
  wT (nth [] wordsT c.kind.toNat) ::
    if c.kind = 6 then linK 0 c.args c.scope ++ [sT 58, wT (nth [] howsT (nth 0 c.args c.scope.length).toNat), nT (nth 0 c.args (c.scope.length + 1))]
    else c.scope.map nT ++ if 2 < c.kind then [] else [sT 58] ++ rowsK 0 c.rows
def costsK : List (List Int) → List Int → List Tok
  | t :: r, c :: cs => [sT 44] ++ t.map nT ++ [nT c] ++ costsK r cs
  | _, _ => []
def softK (s : Sft) : List Tok := wT softT :: (s.scope.map nT ++ [sT 58, nT s.dflt] ++ costsK s.rows s.costs)
def domK (d : List Int) : List Tok := wT varT :: d.map nT

theorem Scan.rows : ∀ {l : List (List Int)} {i : Nat} {r : List UInt8} {us : List Tok}, (∀ t ∈ l, Fits t) → Brk r → Scan r us → Scan (rowsP i l ++ r) (rowsK i l ++ us) ∧ Brk (rowsP i l ++ r)
  | [], i, r, us, _, hr, h => ⟨h, hr⟩
  | t :: l, i, r, us, hf, hr, h => by
    have ih := Scan.rows (l := l) (i := i + 1) (fun t ht => hf t (List.mem_cons_of_mem _ ht)) hr h
    have h1 := Scan.nums (hf t (List.mem_cons_self ..)) ih.2 ih.1
    rw [rowsP, rowsK, commaP]
    simp only [List.append_assoc]
    split
    · exact ⟨Scan.sign (by decide) h1.1, Brk.cons (by decide)⟩
    · exact h1
theorem Scan.lin : ∀ {aa vs : List Int} {i : Nat} {r : List UInt8} {us : List Tok}, Fits aa → Fits vs → Brk r → Scan r us → Scan (linP i aa vs ++ r) (linK i aa vs ++ us) ∧ Brk (linP i aa vs ++ r)
  | [], vs, i, r, us, _, _, hr, h => by simp only [linP, linK]; exact ⟨h, hr⟩
  | a :: aa, [], i, r, us, _, _, hr, h => by simp only [linP, linK]; exact ⟨h, hr⟩
  | a :: aa, v :: vs, i, r, us, hf, hg, hr, h => by
    have ih := Scan.lin (aa := aa) (vs := vs) (i := i + 1) (fun k hk => hf (k + 1) (by simp; omega)) (fun k hk => hg (k + 1) (by simp; omega)) hr h
    have h1 := Scan.nums (l := [a, v]) (fun k hk => by
      match k, hk with
      | 0, _ => exact hf 0 (by simp)
      | 1, _ => exact hg 0 (by simp)) ih.2 ih.1
    rw [linP, linK, commaP]
    simp only [List.append_assoc]
    split
    · exact ⟨Scan.sign (by decide) h1.1, Brk.cons (by decide)⟩
    · exact h1
theorem Scan.costs : ∀ {l : List (List Int)} {cs : List Int} {r : List UInt8} {us : List Tok}, (∀ t ∈ l, Fits t) → Fits cs → Brk r → Scan r us → Scan (costsP l cs ++ r) (costsK l cs ++ us) ∧ Brk (costsP l cs ++ r)
  | [], cs, r, us, _, _, hr, h => by simp only [costsP, costsK]; exact ⟨h, hr⟩
  | t :: l, [], r, us, _, _, hr, h => by simp only [costsP, costsK]; exact ⟨h, hr⟩
  | t :: l, c :: cs, r, us, hf, hg, hr, h => by
    have ih := Scan.costs (l := l) (cs := cs) (fun t ht => hf t (List.mem_cons_of_mem _ ht)) (fun k hk => hg (k + 1) (by simp; omega)) hr h
    have h1 := Scan.nums (l := [c]) (fun k hk => by
      have : k = 0 := by simpa using hk
      subst this; exact hg 0 (by simp)) ih.2 ih.1
    have h2 := Scan.nums (hf t (List.mem_cons_self ..)) h1.2 h1.1
    rw [costsP, costsK]
    simp only [List.append_assoc]
    exact ⟨Scan.sign (by decide) h2.1, Brk.cons (by decide)⟩
end Go.Proofs.YtoahaigfjfeopaaGreatDoor

/- The parser, at the tokens of what is right: it tells that. -/
namespace Go.Proofs.YtoahaigfjfeopaaGreatDoor

theorem er_num {t : Tok} {n : Int} (h : er t = nT n) : t.kind = 2 ∧ t.n = n := by
  simp only [er, nT, Tok.mk.injEq] at h
  exact ⟨h.1, h.2.2.1⟩
theorem er_word {t : Tok} {s : List UInt8} (h : er t = wT s) : t.kind = 1 ∧ t.text = s := by
  simp only [er, wT, Tok.mk.injEq] at h
  exact ⟨h.1, h.2.1⟩
theorem er_sign {t : Tok} {c : UInt8} (h : er t = sT c) : t.kind = 3 ∧ t.text = [c] := by
  simp only [er, sT, Tok.mk.injEq] at h
  exact ⟨h.1, h.2.1⟩
theorem er_end {t : Tok} (h : er t = eT) : t.kind = 4 := by
  simp only [er, eT, Tok.mk.injEq] at h
  exact h.1
theorem isP_sign {t : Tok} {c : UInt8} (h : er t = sT c) : isP t [c] = true := by
  obtain ⟨h1, h2⟩ := er_sign h
  simp [isP, h1, h2]
theorem isP_other {t : Tok} {c d : UInt8} (h : er t = sT c) (hd : c ≠ d) : isP t [d] = false := by
  obtain ⟨h1, h2⟩ := er_sign h
  simp [isP, h1, h2, hd]
theorem numberQ_c {t : Tok} {n m : Int} {r : List Tok} (h : er t = nT n) (hs : smallB n m = true) : numberQ m (t :: r) = .ok (t, r) := by
  obtain ⟨h1, h2⟩ := er_num h
  simp [numberQ, h1, h2, hs]
theorem signQ_c {t : Tok} {c : UInt8} {r : List Tok} (h : er t = sT c) : signQ [c] (t :: r) = .ok ((), r) := by
  simp [signQ, isP_sign h]
theorem map_cons_er {c : List Tok} {u : Tok} {us : List Tok} (h : c.map er = u :: us) : ∃ t c', c = t :: c' ∧ er t = u ∧ c'.map er = us := by
  cases c with
  | nil => cases h
  | cons t c' => rw [List.map_cons] at h; injection h with h1 h2; exact ⟨t, c', rfl, h1, h2⟩
theorem map_app_er {c : List Tok} {us vs : List Tok} (h : c.map er = us ++ vs) : ∃ a b, c = a ++ b ∧ a.map er = us ∧ b.map er = vs := by
  obtain ⟨a, b, rfl, h1, h2⟩ := List.map_eq_append_iff.1 h
  exact ⟨a, b, rfl, h1, h2⟩
theorem map_nil_er {c : List Tok} (h : c.map er = []) : c = [] := List.map_eq_nil_iff.1 h
def Small6 (l : List Int) : Prop := ∀ n ∈ l, smallB n 1000000 = true
theorem valsQ_c (doms : List (List Int)) : ∀ (scope v : List Int) (c r : List Tok), c.map er = v.map nT → v.length = scope.length → inDoms doms scope v = true → Small6 v → valsQ doms scope (c ++ r) = .ok (v, r)
  | [], [], c, r, h, _, _, _ => by
    obtain rfl := map_nil_er h
    rfl
  | s :: ss, n :: v, c, r, h, hl, hi, hs => by
    obtain ⟨t, c', rfl, ht, hc⟩ := map_cons_er h
    simp only [inDoms, Bool.and_eq_true, decide_eq_true_eq] at hi
    rw [List.cons_append, valsQ, numberQ_c ht (hs n (List.mem_cons_self ..))]
    simp only [(er_num ht).2]
    rw [if_pos hi.1, valsQ_c doms ss v c' r hc (by simpa using hl) hi.2 (fun m hm => hs m (List.mem_cons_of_mem _ hm))]
/-- The last row, if there is one. -/
def lastO (l : List (List Int)) : Option (List Int) := if l.length = 0 then none else some (nth [] l (l.length - 1))
theorem lastO_snoc (l : List (List Int)) (t : List Int) : lastO (l ++ [t]) = some t := by
  simp [lastO, nth, List.getD_eq_getElem?_getD]
theorem rowQ_c {doms : List (List Int)} {scope v : List Int} {ahead : List (List Int)} {c r : List Tok} (h : c.map er = v.map nT) (hl : v.length = scope.length) (hi : inDoms doms scope v = true) (hs : Small6 v)
    (ha : (match lastO ahead with | none => true | some p => decide (cmpL p v < 0)) = true) : rowQ doms scope ahead (c ++ r) = .ok (ahead ++ [v], r) := by
  rw [rowQ, valsQ_c doms scope v c r h hl hi hs]
  simp only
  rw [if_pos]
  unfold lastO at ha
  split at ha
  · rename_i h0
    by_cases hz : ahead.length = 0
    · exact .inl hz
    · rw [if_neg hz] at h0; cases h0
  · rename_i p h0
    by_cases hz : ahead.length = 0
    · exact .inl hz
    · rw [if_neg hz] at h0
      injection h0 with h0
      subst h0
      exact .inr (of_decide_eq_true ha)
/-- No comma ahead. -/
def NoComma (r : List Tok) : Prop := ∃ t r', r = t :: r' ∧ isP t [44] = false
theorem isQ_no {r : List Tok} (h : NoComma r) : isQ [44] r = (false, r) := by
  obtain ⟨t, r', rfl, h⟩ := h
  simp [isQ, h]
theorem isQ_yes {t : Tok} {c : UInt8} {r : List Tok} (h : er t = sT c) : isQ [c] (t :: r) = (true, r) := by simp [isQ, isP_sign h]
theorem rowsK_pos : ∀ (l : List (List Int)) (i j : Nat), 0 < i → 0 < j → rowsK i l = rowsK j l
  | [], _, _, _, _ => rfl
  | t :: l, i, j, hi, hj => by rw [rowsK, rowsK, if_pos hi, if_pos hj, rowsK_pos l (i + 1) (j + 1) (by omega) (by omega)]
theorem rowsB_cons (doms : List (List Int)) (scope : List Int) (o : Option (List Int)) (t : List Int) (r : List (List Int)) : rowsB doms scope o (t :: r) = (decide (t.length = scope.length) && (match o with | none => true | some p => decide (cmpL p t < 0)) && inDoms doms scope t && rowsB doms scope (some t) r) := rfl
theorem rowsQ_c (doms : List (List Int)) (scope : List Int) : ∀ (rest : List (List Int)) (v : List Int) (n : Nat) (ahead : List (List Int)) (c r : List Tok), c.map er = v.map nT ++ rowsK 1 rest → rowsB doms scope (lastO ahead) (v :: rest) = true → (∀ t ∈ v :: rest, Small6 t) → rest.length < n → NoComma r →
    rowsQ doms scope n ahead (c ++ r) = .ok (ahead ++ v :: rest, r)
  | rest, v, 0, ahead, c, r, _, _, _, hn, _ => by omega
  | [], v, n + 1, ahead, c, r, h, hb, hs, hn, hr => by
    simp only [rowsK, List.append_nil] at h
    simp only [rowsB, Bool.and_eq_true, decide_eq_true_eq] at hb
    rw [rowsQ, rowQ_c h hb.1.1.1 hb.1.2 (hs v (List.mem_cons_self ..)) hb.1.1.2]
    simp only [isQ_no hr]
    rfl
  | w :: rest, v, n + 1, ahead, c, r, h, hb, hs, hn, hr => by
    rw [rowsK, if_pos (by omega)] at h
    obtain ⟨a, b, rfl, ha, hb2⟩ := map_app_er h
    rw [List.append_assoc, List.singleton_append] at hb2
    obtain ⟨t, b', rfl, ht, hb3⟩ := map_cons_er hb2
    rw [rowsB_cons] at hb
    simp only [Bool.and_eq_true, decide_eq_true_eq] at hb
    rw [rowsQ, List.append_assoc, rowQ_c ha hb.1.1.1 hb.1.2 (hs v (List.mem_cons_self ..)) hb.1.1.2]
    simp only [List.cons_append, isQ_yes ht]
    rw [rowsK_pos rest (1 + 1) 1 (by omega) (by omega)] at hb3
    have := rowsQ_c doms scope rest w n (ahead ++ [v]) b' r hb3 (by rw [lastO_snoc]; exact hb.2) (fun t ht => hs t (List.mem_cons_of_mem _ ht)) (by simp at hn; omega) hr
    simp only [List.append_assoc, List.singleton_append] at this
    exact this
theorem tableQ_c {doms : List (List Int)} {scope : List Int} {rows : List (List Int)} {c r : List Tok} {t : Tok} (h : c.map er = sT 58 :: rowsK 0 rows) (hb : rowsB doms scope none rows = true) (hs : ∀ t ∈ rows, Small6 t) (ht : er t = sT 59) (h0 : 0 < scope.length) :
    tableQ doms scope (c ++ t :: r) = .ok (rows, t :: r) := by
  obtain ⟨u, c', rfl, hu, hc⟩ := map_cons_er h
  rw [List.cons_append, tableQ, signQ_c hu]
  simp only
  cases rows with
  | nil =>
    obtain rfl := map_nil_er hc
    have := er_sign ht
    rw [if_pos (by simpa [nth] using this)]
    rfl
  | cons v rest =>
    rw [rowsK, if_neg (by omega), List.nil_append] at hc
    have hv : v.length = scope.length := by
      rw [rowsB] at hb
      simp only [Bool.and_eq_true, decide_eq_true_eq] at hb
      exact hb.1.1.1
    rw [if_neg]
    · refine rowsQ_c doms scope rest v _ [] c' (t :: r) hc hb hs ?_ ⟨t, r, rfl, isP_other ht (by decide)⟩
      have hl : (c'.map er).length = (v.map nT ++ rowsK 1 rest).length := by rw [hc]
      have hrl : ∀ (l : List (List Int)) (i : Nat), 0 < i → l.length ≤ (rowsK i l).length := by
        intro l
        induction l with
        | nil => intro i _; simp
        | cons a l ih => intro i hi; have := ih (i + 1) (by omega); rw [rowsK, if_pos hi]; simp; omega
      have := hrl rest 1 (by omega)
      simp at hl ⊢
      omega
    · cases v with
      | nil => simp at hv; omega
      | cons n v =>
        obtain ⟨q, c2, rfl, hq, _⟩ := map_cons_er hc
        have := er_num hq
        simp [nth, this.1]

/-! ### Scopes, domains -/
theorem nth_len {α : Type} (z : α) (a : List α) (n : α) (l : List α) : nth z (a ++ n :: l) a.length = n := by simp [nth, List.getD_eq_getElem?_getD]
theorem nth_left {α : Type} (z : α) (a l : List α) (k : Nat) (h : k < a.length) : nth z (a ++ l) k = nth z a k := by simp [nth, List.getD_eq_getElem?_getD, List.getElem?_append_left h]
theorem last_lt {a l : List Int} {n : Int} (h : risingB (a ++ n :: l) = true) (ha : a.length ≠ 0) : lastI a < n := by
  have := rising_step h (a.length - 1) (by simp; omega)
  rw [show a.length - 1 + 1 = a.length by omega, nth_len, nth_left _ _ _ _ (by omega)] at this
  exact this
/-- Variables that may be a scope, among so many. -/
def ScopeOk (nd : Nat) (l : List Int) : Prop := l.length ≤ 6 ∧ risingB l = true ∧ ∀ v ∈ l, 0 ≤ v ∧ v < nd
theorem varQ_c {nd : Nat} {l q : List Int} {n : Int} {t : Tok} {r : List Tok} (h : er t = nT n) (hk : ScopeOk nd (l ++ n :: q)) (hnd : nd ≤ 40) : varQ nd l (t :: r) = .ok (l ++ [n], r) := by
  obtain ⟨h1, h2, h3⟩ := hk
  have hn := h3 n (by simp)
  rw [varQ, numberQ_c h (by simp [smallB]; omega)]
  simp only [(er_num h).2]
  rw [if_neg (by simp at h1; omega), if_pos]
  refine ⟨hn.1, hn.2, ?_⟩
  by_cases h0 : l.length = 0
  · exact .inl h0
  · exact .inr (last_lt h2 h0)
/-- No number ahead. -/
def NoNum (r : List Tok) : Prop := ∃ t r', r = t :: r' ∧ t.kind ≠ 2
theorem scopeQ_c (nd : Nat) (hnd : nd ≤ 40) : ∀ (l acc : List Int) (c r : List Tok), c.map er = l.map nT → ScopeOk nd (acc ++ l) → acc ++ l ≠ [] → NoNum r → scopeQ nd (c ++ r) acc = .ok (acc ++ l, r)
  | [], acc, c, r, h, hk, h0, hr => by
    obtain rfl := map_nil_er h
    obtain ⟨t, r', rfl, ht⟩ := hr
    rw [List.nil_append, scopeQ, if_pos ⟨by intro e; apply h0; rw [List.eq_nil_of_length_eq_zero e]; rfl, ht⟩, List.append_nil]
  | n :: l, acc, c, r, h, hk, h0, hr => by
    obtain ⟨t, c', rfl, ht, hc⟩ := map_cons_er h
    have hn := er_num ht
    rw [List.cons_append, scopeQ_ok (.inr hn.1) (varQ_c ht hk hnd)]
    have := scopeQ_c nd hnd l (acc ++ [n]) c' r hc (by simpa using hk) (by simp) hr
    simpa using this
theorem domQ_c : ∀ (l acc : List Int) (c r : List Tok), c.map er = l.map nT → (acc ++ l).length ≤ 16 → risingB (acc ++ l) = true → Small6 l → acc ++ l ≠ [] → NoNum r → domQ (c ++ r) acc = .ok (acc ++ l, r)
  | [], acc, c, r, h, _, _, _, h0, hr => by
    obtain rfl := map_nil_er h
    obtain ⟨t, r', rfl, ht⟩ := hr
    rw [List.nil_append, domQ, if_pos ⟨by intro e; apply h0; rw [List.eq_nil_of_length_eq_zero e]; rfl, ht⟩, List.append_nil]
  | n :: l, acc, c, r, h, hl, hri, hs, h0, hr => by
    obtain ⟨t, c', rfl, ht, hc⟩ := map_cons_er h
    have hn := er_num ht
    rw [List.cons_append, domQ, if_neg (by rintro ⟨_, hk⟩; exact hk hn.1), numberQ_c ht (hs n (List.mem_cons_self ..))]
    simp only [hn.2]
    rw [if_neg (by simp at hl; omega), if_neg (by rintro ⟨ha, hb⟩; have := last_lt hri ha; omega)]
    have := domQ_c l (acc ++ [n]) c' r hc (by simpa using hl) (by simpa using hri) (fun m hm => hs m (List.mem_cons_of_mem _ hm)) (by simp) hr
    simpa using this

/-! ### Linear constraints -/
theorem linK_pos : ∀ (a v : List Int) (i j : Nat), 0 < i → 0 < j → linK i a v = linK j a v
  | [], _, _, _, _, _ => by simp only [linK]
  | _ :: _, [], _, _, _, _ => by simp only [linK]
  | a :: aa, v :: vs, i, j, hi, hj => by rw [linK, linK, if_pos hi, if_pos hj, linK_pos aa vs (i + 1) (j + 1) (by omega) (by omega)]
theorem termsQ_c (nd : Nat) (hnd : nd ≤ 40) : ∀ (aa vs : List Int) (a v : Int) (n : Nat) (args scope : List Int) (c r : List Tok), c.map er = [nT a, nT v] ++ linK 1 aa vs → aa.length = vs.length → (∀ b ∈ a :: aa, b ≠ 0 ∧ smallB b 1000000 = true) → ScopeOk nd (scope ++ v :: vs) → vs.length < n → NoComma r →
    termsQ nd n args scope (c ++ r) = .ok ((args ++ a :: aa, scope ++ v :: vs), r)
  | aa, vs, a, v, 0, args, scope, c, r, _, _, _, _, hn, _ => by omega
  | [], w :: vs, a, v, n + 1, args, scope, c, r, _, hl, _, _, _, _ => by simp at hl
  | b :: aa, [], a, v, n + 1, args, scope, c, r, _, hl, _, _, _, _ => by simp at hl
  | [], [], a, v, n + 1, args, scope, c, r, h, _, hb, hk, _, hr => by
    simp only [linK, List.append_nil] at h
    obtain ⟨t, c1, rfl, ht, h⟩ := map_cons_er h
    obtain ⟨u, c2, rfl, hu, h⟩ := map_cons_er h
    obtain rfl := map_nil_er h
    have ha := hb a (List.mem_cons_self ..)
    have hn := er_num ht
    rw [List.cons_append, List.cons_append, List.nil_append, termsQ, numberQ_c ht ha.2]
    simp only [hn.2]
    rw [if_neg ha.1, varQ_c (q := []) hu (by simpa using hk) hnd]
    simp only [isQ_no hr]
    rfl
  | b :: aa, w :: vs, a, v, n + 1, args, scope, c, r, h, hl, hb, hk, hn', hr => by
    rw [linK, if_pos (by omega)] at h
    simp only [List.cons_append, List.nil_append] at h
    obtain ⟨t, c1, rfl, ht, h⟩ := map_cons_er h
    obtain ⟨u, c2, rfl, hu, h⟩ := map_cons_er h
    obtain ⟨k, c3, rfl, hkc, h⟩ := map_cons_er h
    rw [linK_pos aa vs (1 + 1) 1 (by omega) (by omega)] at h
    have ha := hb a (List.mem_cons_self ..)
    have hn := er_num ht
    rw [List.cons_append, List.cons_append, List.cons_append, termsQ, numberQ_c ht ha.2]
    simp only [hn.2]
    rw [if_neg ha.1, varQ_c (q := w :: vs) hu hk hnd]
    simp only [isQ_yes hkc]
    have := termsQ_c nd hnd aa vs b w n (args ++ [a]) (scope ++ [v]) c3 r h (by simpa using hl) (fun m hm => hb m (List.mem_cons_of_mem _ hm)) (by simpa using hk) (by simp at hn'; omega) hr
    simpa using this

/-! ### Statements -/
theorem how_at (k : Int) (h0 : 0 ≤ k) (h2 : k ≤ 2) : wordFrom (nth [] howsT k.toNat) 0 howsT = k := by
  have : k = 0 ∨ k = 1 ∨ k = 2 := by omega
  rcases this with rfl | rfl | rfl <;> rfl
theorem word_at (k : Int) (h0 : 1 ≤ k) (h2 : k ≤ 6) : wordFrom (nth [] wordsT k.toNat) 0 wordsT = k ∧ nth [] wordsT k.toNat ≠ varT ∧ nth [] wordsT k.toNat ≠ softT := by
  have : k = 1 ∨ k = 2 ∨ k = 3 ∨ k = 4 ∨ k = 5 ∨ k = 6 := by omega
  rcases this with rfl | rfl | rfl | rfl | rfl | rfl <;> exact ⟨rfl, by decide, by decide⟩
theorem scope_ok {n : Nat} {l : List Int} (h : scopeB n l = true) : ScopeOk n l ∧ l ≠ [] := by
  have h1 := scopeB_range h
  simp only [scopeB, Bool.and_eq_true, decide_eq_true_eq] at h
  refine ⟨⟨h.1.1.1.2, h.1.1.2, fun v hv => ?_⟩, fun e => by rw [e] at h; simp at h⟩
  obtain ⟨k, hk, rfl⟩ := mem_nth 0 hv
  exact h1 k hk
/-- Domains that may be, each number small. -/
def DomsOk (doms : List (List Int)) : Prop := doms.length ≤ 40 ∧ ∀ d ∈ doms, domainB d = true
theorem small_of_fit6 {n : Int} (h : Fit6 n) : smallB n 1000000 = true := by simp [smallB]; exact ⟨h.1, h.2⟩
theorem doms_fit {doms : List (List Int)} (h : DomsOk doms) : ∀ i, i < doms.length → ∀ k, k < (nth [] doms i).length → Fit6 (nth 0 (nth [] doms i) k) :=
  fun _ hi => domainB_fits (h.2 _ (nth_mem [] hi))
theorem rows_small {doms : List (List Int)} {scope : List Int} {rows : List (List Int)} {o : Option (List Int)} (hd : DomsOk doms) (hs : scopeB doms.length scope = true) (h : rowsB doms scope o rows = true) : ∀ t ∈ rows, Small6 t := by
  intro t ht n hn
  obtain ⟨i, hi, rfl⟩ := mem_nth [] ht
  obtain ⟨k, hk, rfl⟩ := mem_nth 0 hn
  exact small_of_fit6 ((rowsB_fits (doms_fit hd) (scopeB_range hs) rows o h i hi).2 k hk)
theorem args_at (n : Nat) : ∀ (l : List Int) (i : Nat), argsB n i l = true → ∀ k, k < l.length → (i + k < n → nth 0 l k ≠ 0) ∧ smallB (nth 0 l k) 1000000 = true
  | [], i, _, k, hk => by simp at hk
  | a :: l, i, h, k, hk => by
    simp only [argsB, Bool.and_eq_true, Bool.not_eq_true', Bool.and_eq_false_iff, decide_eq_false_iff_not] at h
    cases k with
    | zero => exact ⟨fun hi e => by rcases h.1.1 with h1 | h1; exact h1 hi; exact h1 e, h.1.2⟩
    | succ k =>
      have := args_at n l (i + 1) h.2 k (by simpa using hk)
      exact ⟨fun hi => this.1 (by omega), this.2⟩
theorem linK_take : ∀ (aa vs : List Int) (i : Nat), linK i (aa.take vs.length) vs = linK i aa vs
  | [], vs, i => by simp
  | a :: aa, [], i => by simp [linK]
  | a :: aa, v :: vs, i => by simp only [List.length_cons, List.take_succ_cons, linK, linK_take aa vs (i + 1)]
end Go.Proofs.YtoahaigfjfeopaaGreatDoor

/- The parser, at the tokens of right statements. -/
namespace Go.Proofs.YtoahaigfjfeopaaGreatDoor

theorem linearQ_c {nd : Nat} (hnd : nd ≤ 40) {c : List Tok} {r : List Tok} {t : Tok} {x : Con} (hl : linearB x = true) (hs : scopeB nd x.scope = true)
    (h : c.map er = linK 0 x.args x.scope ++ [sT 58, wT (nth [] howsT (nth 0 x.args x.scope.length).toNat), nT (nth 0 x.args (x.scope.length + 1))]) (_ : er t = sT 59) :
    linearQ nd (c ++ t :: r) = .ok ((x.args, x.scope), t :: r) := by
  obtain ⟨kind, scope, rows, args⟩ := x
  simp only [linearB, Bool.and_eq_true, decide_eq_true_eq] at hl
  obtain ⟨⟨⟨ha, h0⟩, h2⟩, hargs⟩ := hl
  simp only at ha h0 h2 hargs hs h
  obtain ⟨hk, hne⟩ := scope_ok hs
  have hat := args_at scope.length args 0 hargs
  obtain ⟨c1, c2, rfl, hc1, hc2⟩ := map_app_er h
  obtain ⟨u1, c3, rfl, hu1, hc3⟩ := map_cons_er hc2
  obtain ⟨u2, c4, rfl, hu2, hc4⟩ := map_cons_er hc3
  obtain ⟨u3, c5, rfl, hu3, hc5⟩ := map_cons_er hc4
  obtain rfl := map_nil_er hc5
  rw [← linK_take] at hc1
  have hsplit : args = args.take scope.length ++ [nth 0 args scope.length, nth 0 args (scope.length + 1)] := by
    conv => lhs; rw [← List.take_append_drop scope.length args]
    rw [drop_cons args 0 scope.length (by omega), drop_cons args 0 (scope.length + 1) (by omega), List.drop_eq_nil_of_le (by omega)]
  have htl : (args.take scope.length).length = scope.length := by rw [List.length_take]; omega
  have hnz : ∀ b ∈ args.take scope.length, b ≠ 0 ∧ smallB b 1000000 = true := by
    intro b hb
    obtain ⟨k, hk, rfl⟩ := mem_nth 0 hb
    have hk' : k < args.length := by rw [htl] at hk; omega
    have he : nth 0 (args.take scope.length) k = nth 0 args k := by
      simp [nth, List.getD_eq_getElem?_getD, List.getElem?_take_of_lt (show k < scope.length by omega)]
    rw [he]
    exact ⟨(hat k hk').1 (by omega), (hat k hk').2⟩
  generalize hA : args.take scope.length = A at *
  have hterm : ∀ q n, scope.length < n + 1 → termsQ nd n [] [] (c1 ++ (u1 :: q)) = .ok ((A, scope), u1 :: q) := by
    intro q n hn
    cases hsc : scope with
    | nil => exact absurd hsc hne
    | cons v vs =>
      cases hac : A with
      | nil => rw [hac] at htl; rw [hsc] at htl; simp at htl
      | cons a aa =>
        rw [hac, hsc, linK, if_neg (by omega), List.nil_append] at hc1
        rw [hac, hsc] at htl
        rw [hac] at hnz
        rw [hsc] at hk hn
        have := termsQ_c nd hnd aa vs a v n [] [] c1 (u1 :: q) hc1 (by simpa using htl) hnz (by simpa using hk) (by simp at hn; omega) ⟨u1, q, rfl, isP_other hu1 (by decide)⟩
        simpa using this
  have hlen1 : scope.length ≤ c1.length := by
    have hrl : ∀ (aa vs : List Int) (i : Nat), aa.length = vs.length → vs.length ≤ (linK i aa vs).length := by
      intro aa
      induction aa with
      | nil => intro vs i h; cases vs with
        | nil => simp
        | cons v vs => simp at h
      | cons a aa ih => intro vs i h; cases vs with
        | nil => simp
        | cons v vs => have := ih vs (i + 1) (by simpa using h); rw [linK]; simp; omega
    have := hrl A scope 0 htl
    have hl2 : (c1.map er).length = c1.length := by simp
    rw [hc1] at hl2
    omega
  rw [linearQ, show c1 ++ u1 :: u2 :: [u3] ++ t :: r = c1 ++ (u1 :: u2 :: u3 :: t :: r) by simp, hterm (u2 :: u3 :: t :: r) _ (by simp; omega)]
  simp only [signQ_c hu1]
  have hw := er_word hu2
  simp only [nextQ, hw.1, hw.2, how_at _ h0 h2]
  rw [if_pos ⟨trivial, h0⟩, if_neg (show ¬ ((1 : Int) = 4) by decide), numberQ_c hu3 (hat (scope.length + 1) (by omega)).2]
  simp only [(er_num hu3).2]
  rw [← hsplit]
theorem hardQ_c {x : Ins} {c : Con} {cs : List Tok} {r : List Tok} {t : Tok} (hd : DomsOk x.doms) (hb : hardB x c = true) (ht : er t = sT 59)
    (h : cs.map er = (if c.kind = 6 then linK 0 c.args c.scope ++ [sT 58, wT (nth [] howsT (nth 0 c.args c.scope.length).toNat), nT (nth 0 c.args (c.scope.length + 1))]
    else c.scope.map nT ++ if 2 < c.kind then [] else [sT 58] ++ rowsK 0 c.rows)) :
    hardQ x.doms c.kind (cs ++ t :: r) = .ok (c, t :: r) := by
  obtain ⟨kind, scope, rows, args⟩ := c
  simp only [hardB, Bool.and_eq_true, decide_eq_true_eq, Bool.not_eq_true', Bool.and_eq_false_iff, decide_eq_false_iff_not] at hb
  obtain ⟨⟨⟨⟨hs, hk1⟩, hk6⟩, hrow⟩, hrest⟩ := hb
  simp only at h ⊢
  obtain ⟨hsk, hne⟩ := scope_ok hs
  have hrows0 : 2 < kind → rows = [] := fun hk => by
    rcases hrow with h1 | h1
    · exact absurd hk h1
    · exact List.eq_nil_of_length_eq_zero (by omega)
  by_cases h6 : kind = 6
  · rw [if_pos h6] at h hrest
    rw [hardQ, if_pos h6, linearQ_c (x := ⟨kind, scope, rows, args⟩) hd.1 hrest hs h ht]
    simp only [hrows0 (by omega)]
  · rw [if_neg h6] at h hrest
    simp only [Bool.and_eq_true, decide_eq_true_eq] at hrest
    have hargs := List.eq_nil_of_length_eq_zero hrest.1
    subst hargs
    obtain ⟨c1, c2, rfl, hc1, hc2⟩ := map_app_er h
    rw [hardQ, if_neg h6]
    by_cases h2 : 2 < kind
    · rw [if_pos h2] at hc2
      obtain rfl := map_nil_er hc2
      have hnn : NoNum (t :: r) := ⟨t, r, rfl, by rw [(er_sign ht).1]; decide⟩
      rw [List.append_nil, scopeQ_c _ hd.1 scope [] c1 _ hc1 (by simpa using hsk) (by simpa using hne) hnn]
      simp only [List.nil_append]
      rw [if_neg (by omega)]
      rw [hrows0 h2]
    · rw [if_neg h2] at hc2
      obtain ⟨u, c3, rfl, hu, hc3⟩ := map_cons_er hc2
      have hnn : NoNum (u :: c3 ++ t :: r) := ⟨u, c3 ++ t :: r, rfl, by rw [(er_sign hu).1]; decide⟩
      rw [List.append_assoc, scopeQ_c _ hd.1 scope [] c1 _ hc1 (by simpa using hsk) (by simpa using hne) hnn]
      simp only [List.nil_append]
      rw [if_pos (by omega), tableQ_c (c := u :: c3) (rows := rows) (by rw [List.map_cons, hu]; exact congrArg _ hc3) hrest.2 (rows_small hd hs hrest.2) ht (List.length_pos_iff.2 hne)]
theorem costsQ_c {doms : List (List Int)} {scope : List Int} : ∀ (rows : List (List Int)) (costs : List Int) (n : Nat) (rs : List (List Int)) (ks : List Int) (c r : List Tok), c.map er = costsK rows costs → rows.length = costs.length → rowsB doms scope (lastO rs) rows = true → (∀ t ∈ rows, Small6 t) → (∀ k ∈ costs, smallB k 1000000000000 = true) → rows.length < n → NoComma r →
    costsQ doms scope n rs ks (c ++ r) = .ok ((rs ++ rows, ks ++ costs), r)
  | rows, costs, 0, rs, ks, c, r, _, _, _, _, _, hn, _ => by omega
  | [], k :: costs, n + 1, rs, ks, c, r, _, hl, _, _, _, _, _ => by simp at hl
  | v :: rows, [], n + 1, rs, ks, c, r, _, hl, _, _, _, _, _ => by simp at hl
  | [], [], n + 1, rs, ks, c, r, h, _, _, _, _, _, hr => by
    simp only [costsK] at h
    obtain rfl := map_nil_er h
    rw [List.nil_append, costsQ, isQ_no hr]
    simp
  | v :: rows, k :: costs, n + 1, rs, ks, c, r, h, hl, hb, hs, hk, hn, hr => by
    rw [costsK] at h
    simp only [List.append_assoc, List.cons_append, List.nil_append] at h
    obtain ⟨t, c1, rfl, ht, h⟩ := map_cons_er h
    obtain ⟨c2, c3, rfl, hc2, h⟩ := map_app_er h
    obtain ⟨u, c4, rfl, hu, h⟩ := map_cons_er h
    rw [rowsB_cons] at hb
    simp only [Bool.and_eq_true, decide_eq_true_eq] at hb
    rw [List.cons_append, List.append_assoc, List.cons_append, costsQ, isQ_yes ht]
    simp only [if_true]
    rw [rowQ_c hc2 hb.1.1.1 hb.1.2 (hs v (List.mem_cons_self ..)) hb.1.1.2]
    simp only
    rw [numberQ_c hu (hk k (List.mem_cons_self ..))]
    simp only [(er_num hu).2]
    have := costsQ_c rows costs n (rs ++ [v]) (ks ++ [k]) c4 r h (by simpa using hl) (by rw [lastO_snoc]; exact hb.2) (fun t ht => hs t (List.mem_cons_of_mem _ ht)) (fun m hm => hk m (List.mem_cons_of_mem _ hm)) (by simp at hn; omega) hr
    simpa using this
theorem costs_small {l : List Int} (h : wideAny l = false) : ∀ k ∈ l, smallB k 1000000000000 = true := by
  intro k hk
  simp only [wideAny, List.any_eq_false] at h
  have := h k hk
  simpa using this
theorem softQ_c {x : Ins} {s : Sft} {cs : List Tok} {r : List Tok} {t : Tok} (hd : DomsOk x.doms) (hb : softB x s = true) (ht : er t = sT 59)
    (h : cs.map er = s.scope.map nT ++ [sT 58, nT s.dflt] ++ costsK s.rows s.costs) : softQ x.doms (cs ++ t :: r) = .ok (s, t :: r) := by
  obtain ⟨scope, rows, costs, dflt⟩ := s
  simp only [softB, Bool.and_eq_true, decide_eq_true_eq, Bool.not_eq_true'] at hb
  obtain ⟨⟨⟨⟨hs, hl⟩, hdf⟩, hw⟩, hrows⟩ := hb
  simp only at h
  obtain ⟨hsk, hne⟩ := scope_ok hs
  rw [List.append_assoc] at h
  obtain ⟨c1, c2, rfl, hc1, h⟩ := map_app_er h
  simp only [List.cons_append, List.nil_append] at h
  obtain ⟨u, c3, rfl, hu, h⟩ := map_cons_er h
  obtain ⟨v, c4, rfl, hv, h⟩ := map_cons_er h
  have hnn : NoNum (u :: v :: c4 ++ t :: r) := ⟨u, v :: c4 ++ t :: r, rfl, by rw [(er_sign hu).1]; decide⟩
  have hlen : rows.length ≤ c4.length := by
    have hrl : ∀ (rows : List (List Int)) (costs : List Int), rows.length = costs.length → rows.length ≤ (costsK rows costs).length := by
      intro rows
      induction rows with
      | nil => intro costs _; simp
      | cons v rows ih => intro costs hl; cases costs with
        | nil => simp at hl
        | cons k costs => have := ih costs (by simpa using hl); rw [costsK]; simp; omega
    have := hrl rows costs hl.symm
    have hl2 : (c4.map er).length = c4.length := by simp
    rw [h] at hl2
    omega
  rw [softQ, List.append_assoc, scopeQ_c _ hd.1 scope [] c1 _ hc1 (by simpa using hsk) (by simpa using hne) hnn]
  simp only [List.cons_append, List.nil_append, signQ_c hu]
  rw [numberQ_c hv hdf]
  simp only [(er_num hv).2]
  rw [costsQ_c rows costs _ [] [] c4 (t :: r) h hl.symm hrows (rows_small hd hs hrows) (costs_small hw) (by simp; omega) ⟨t, r, rfl, isP_other ht (by decide)⟩]
  simp
end Go.Proofs.YtoahaigfjfeopaaGreatDoor
