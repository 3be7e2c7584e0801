/- A strings.Builder embedded in inst's printer: what WriteString, WriteByte and String do to it. (Turned from the worked proofs of the shelf, at the printer's own type.) -/
import Derived.Test.YtoahaigfjfeopaaGreatDoorWb
import Derived.Lib.Builder
import Derived.Lib.OthersKept
import Derived.Lib.AppendStr
import Derived.Lib.UnsafeStr
import Derived.Lib.MakeNoZero
import Derived.Lib.OwnKind
import Derived.OrdersHeld
import Derived.Shelf.Strings.Builder1
namespace Go.Proofs.YtoahaigfjfeopaaGreatDoor
open Go.RowKit

/-- The printer in block b holds the bytes l. -/
def Bld (b : Nat) (l : List UInt8) (w : World) : Prop :=
  ∃ p v, (p = .pointer none ∨ p = .pointer (some ⟨b, 0, none⟩)) ∧ w.heap[b]? = some (.cells #[p, v] 61 (0, 0)) ∧ w.ownsRow b 5 1 v l.length (Lib.byteCells l) ∧ v.ownBlock ≠ some b ∧ (l = [] → v = .slice none 0 0)
/-- What a call on the printer in block b keeps. -/
structure Kep (b : Nat) (w w' : World) : Prop where
  below : Below b w w'
  others : Lib.OthersKept 5 (some b) w w'
theorem Kep.refl (b : Nat) (w : World) : Kep b w w := ⟨Below.refl _ _, Lib.OthersKept.refl _ _ _⟩
theorem Kep.trans {b : Nat} {w w1 w2 : World} (h : Kep b w w1) (k : Kep b w1 w2) : Kep b w w2 := ⟨h.below.trans k.below, h.others.trans k.others⟩

set_option maxRecDepth 100000 in
theorem copyCheck_used (b : Nat) (w : World) (h0 : w.cell? ⟨b, 0, none⟩ = some (.pointer (some ⟨b, 0, none⟩))) :
    Calls Tryz.prog 62 #[.pointer (some ⟨b, 0, none⟩)] w fun e w' => e = .returned (.tuple #[]) ∧ w' = w := by
  obtain ⟨j, hj, _⟩ := Option.map_eq_some_iff.1 (show (Tryz.prog.info? 59).map (·.size) = some 2 by kernel_rfl)
  go_enter Tryz.func62, Tryz.ntmps62
  go_wp2
  rw [Lib.run_neq_ptr_same w _ Tryz.underlying57 hj]
  go_wp2
  go_end0
  exact ⟨rfl, rfl⟩
set_option maxRecDepth 100000 in
theorem copyCheck_fresh (b : Nat) (w : World) (h0 : w.cell? ⟨b, 0, none⟩ = some (.pointer none)) (hsh : w.shape? b = some (61, 2)) (hfz : w.frozen? ⟨b, 0, none⟩ = false) :
    Calls Tryz.prog 62 #[.pointer (some ⟨b, 0, none⟩)] w fun e w' => e = .returned (.tuple #[]) ∧ w' = w.setCell ⟨b, 0, none⟩ (.pointer (some ⟨b, 0, none⟩)) := by
  obtain ⟨j, hj, hjs⟩ := Option.map_eq_some_iff.1 (show (Tryz.prog.info? 59).map (·.size) = some 2 by kernel_rfl)
  go_enter Tryz.func62, Tryz.ntmps62
  go_wp2
  rw [Lib.run_to_unsafe w ⟨b, 0, none⟩ Tryz.underlying57 Tryz.underlying122 hj (by rw [hjs]; decide) hsh (Nat.zero_lt_succ 1)]
  simp only [Result.andThen]
  rw [Oper.upon_value]
  go_wp2
  rw [run_callFunc_extern Tryz.func92 (by kernel_rfl) (by kernel_rfl) (by kernel_rfl) (e := Extern.AbiNoEscape.same) (by kernel_rfl)]
  rw [Lib.run_noEscape]
  simp only [Result.andThen]
  rw [Oper.upon_value]
  go_wp2
  rw [Lib.run_from_unsafe w ⟨b, 0, none⟩ Tryz.underlying122 Tryz.underlying57 hj hsh (by kernel_rfl)]
  simp only [Result.andThen]
  rw [Oper.upon_value]
  go_wp2
  go_end0
  exact ⟨rfl, rfl⟩
theorem byteCells_append (l m : List UInt8) : Lib.byteCells (l ++ m) = Lib.byteCells l ++ Lib.byteCells m := by simp [Lib.byteCells]
theorem lt_of_block {w : World} {b : Nat} {o : Obj} (h : w.heap[b]? = some o) : b < w.heap.size := (Array.getElem?_eq_some_iff.1 h).1
/-- Behind copyCheck the printer is used. -/
theorem copyCheck_any (b : Nat) (l : List UInt8) (w : World) (h : Bld b l w) :
    Calls Tryz.prog 62 #[.pointer (some ⟨b, 0, none⟩)] w fun e w' => e = .returned (.tuple #[]) ∧
      (∃ v, w'.heap[b]? = some (.cells #[.pointer (some ⟨b, 0, none⟩), v] 61 (0, 0)) ∧ w'.ownsRow b 5 1 v l.length (Lib.byteCells l) ∧ v.ownBlock ≠ some b ∧ (l = [] → v = .slice none 0 0)) ∧ Kep b w w' := by
  obtain ⟨p, v, hp, hbk, hown, hne, h0⟩ := h
  rcases hp with rfl | rfl
  · refine (copyCheck_fresh b w (cell_at hbk (i := 0) rfl) (by simp [World.shape?, hbk]) (Lib.frozen_of_heap hbk 0)).mono ?_
    rintro e w' ⟨rfl, rfl⟩
    have hb' : (w.setCell ⟨b, 0, none⟩ (.pointer (some ⟨b, 0, none⟩))).heap[b]? = some (.cells #[.pointer (some ⟨b, 0, none⟩), v] 61 (0, 0)) := by
      simp [World.setCell, Array.getElem?_modify, hbk]
    have hg : w.grownBy (w.setCell ⟨b, 0, none⟩ (.pointer (some ⟨b, 0, none⟩))) (some b) :=
      ⟨rfl, rfl, rfl, by simp [World.setCell], fun k _ hk => Below.heap_setCell _ _ _ _ (fun e => hk (by rw [e]))⟩
    exact ⟨rfl, ⟨v, hb', hown.kept hg (.inr hne), hne, h0⟩, (Below.refl b w).setCell (p := ⟨b, 0, none⟩) (Nat.le_refl _) _, (Lib.OthersKept.refl _ _ w).setCell ⟨b, 0, none⟩ rfl _⟩
  · refine (copyCheck_used b w (cell_at hbk (i := 0) rfl)).mono ?_
    rintro e w' ⟨rfl, rfl⟩
    exact ⟨rfl, ⟨v, hbk, hown, hne, h0⟩, Kep.refl _ _⟩

set_option maxHeartbeats 1000000 in
set_option maxRecDepth 100000 in
theorem writeString_any (b : Nat) (l : List UInt8) (s : ByteArray) (w : World) (h : Bld b l w) (hlen : l.length + s.size ≤ 140737488355328) :
    Calls Tryz.prog 35 #[.pointer (some ⟨b, 0, none⟩), .string s] w fun e w' => e = .returned (.tuple #[.int .i64 s.size, .nilIface]) ∧ Bld b (l ++ s.data.toList) w' ∧ Kep b w w' := by
  obtain ⟨i0, hi, hz0, hz1, hz2⟩ := info_parts (show (Tryz.prog.info? 5).map (fun i => (i.zero, i.size, i.bytes)) = some (some (.int .u8 0), 1, 1) by kernel_rfl)
  have hbw : b < w.heap.size := by obtain ⟨p, v, _, hbk, _⟩ := h; exact lt_of_block hbk
  go_enter Tryz.func35, Tryz.ntmps35
  go_wp2_with (go_at_call 62; refine (copyCheck_any b l _ h).mono ?_)
  rintro e w1 ⟨rfl, ⟨v, hbk, hown, hne, h0⟩, hk1⟩
  have hsz := hk1.below.size
  have K1 := Lib.hid hk1
  clear hk1
  have c0 : w1.cell? ⟨b, 0, none⟩ = some (.pointer (some ⟨b, 0, none⟩)) := cell_at hbk (i := 0) rfl
  have c1 : w1.cell? ⟨b, 1, none⟩ = some v := cell_at hbk (i := 1) rfl
  have H0 := Lib.hid h0
  clear h0
  go_wp2_with (at_builtin; refine Lib.wpList_append_own_string _ rfl _ _ 39 9 rfl b 5 i0 Tryz.underlying39 Tryz.underlying9 hi hz0 hz1 hz2 _ _ _ rfl hown s rfl ?c3 ?c4 ?c5 ?_)
  case c3 => unfold maxLen; omega
  case c4 => omega
  case c5 => omega
  intro v' w2 hown' hgrow hnil
  have Hn := Lib.hid hnil
  clear hnil
  have hlt : b < w1.heap.size := lt_of_block hbk
  have hb2 : w2.heap[b]? = some (.cells #[.pointer (some ⟨b, 0, none⟩), v] 61 (0, 0)) := by
    rw [hgrow.block b hlt (fun e => hne e.symm)]
    exact hbk
  have d0 : w2.cell? ⟨b, 0, none⟩ = some (.pointer (some ⟨b, 0, none⟩)) := cell_at hb2 (i := 0) rfl
  have d1 : w2.cell? ⟨b, 1, none⟩ = some v := cell_at hb2 (i := 1) rfl
  have f1 : w2.frozen? ⟨b, 1, none⟩ = false := Lib.frozen_of_heap hb2 1
  obtain ⟨ao, n', cap, rfl⟩ : ∃ ao n' cap, v' = .slice ao n' cap := by
    rcases hown'.2 with ⟨hv, _⟩ | ⟨g, cap, cur, hv, _⟩
    · exact ⟨_, _, _, hv⟩
    · exact ⟨_, _, _, hv⟩
  have hkind := Lib.hid (Lib.ownsRow_kind hown)
  have HG := Lib.hid hgrow
  have HO := Lib.hid hown'
  have HW := Lib.hid hown
  clear hgrow hown' hown
  go_wp2
  go_ret2
  have hne' : (Value.slice ao n' cap).ownBlock ≠ some b := by
    intro he
    obtain ⟨c', fz', hc⟩ := Lib.ownsRow_kind HO.out _ he
    rw [hb2] at hc
    injection hc with hc
    injection hc with _ hc _
    exact absurd hc (by decide)
  have hgs : w2.grownBy (w2.setCell ⟨b, 1, none⟩ (.slice ao n' cap)) (some b) :=
    ⟨rfl, rfl, rfl, by simp [World.setCell], fun k _ hk => Below.heap_setCell _ _ _ _ (fun e => hk (by rw [e]))⟩
  refine ⟨rfl, ⟨_, .slice ao n' cap, .inr rfl, ?_, ?_, hne', ?_⟩, ⟨?_, ?_⟩⟩
  · simp [World.setCell, Array.getElem?_modify, hb2]
  · have := HO.out.kept hgs (.inr hne')
    rw [List.length_append, byteCells_append]
    exact this
  · intro hl
    obtain ⟨hl1, hl2⟩ := List.append_eq_nil_iff.1 hl
    exact Hn.out.2 ⟨H0.out hl1, by have := congrArg List.length hl2; simpa using this⟩
  · exact (K1.out.below.grown HG.out (by omega) (fun k hk => (HW.out.lt k hk).1)).setCell (p := ⟨b, 1, none⟩) (Nat.le_refl _) _
  · exact (K1.out.others.grown HG.out hkind.out).setCell ⟨b, 1, none⟩ rfl _
set_option maxHeartbeats 1000000 in
set_option maxRecDepth 100000 in
theorem writeByte_any (b : Nat) (l : List UInt8) (c : UInt8) (w : World) (h : Bld b l w) (hlen : l.length + 1 ≤ 140737488355328) :
    Calls Tryz.prog 65 #[.pointer (some ⟨b, 0, none⟩), .int .u8 c.toNat] w fun e w' => e = .returned .nilIface ∧ Bld b (l ++ [c]) w' ∧ Kep b w w' := by
  obtain ⟨i0, hi, hz0, hz1, hz2⟩ := info_parts (show (Tryz.prog.info? 5).map (fun i => (i.zero, i.size, i.bytes)) = some (some (.int .u8 0), 1, 1) by kernel_rfl)
  have hbw : b < w.heap.size := by obtain ⟨p, v, _, hbk, _⟩ := h; exact lt_of_block hbk
  go_enter Tryz.func65, Tryz.ntmps65
  go_wp2_with (go_at_call 62; refine (copyCheck_any b l _ h).mono ?_)
  rintro e w1 ⟨rfl, ⟨v, hbk, hown, hne, h0⟩, hk1⟩
  have hsz := hk1.below.size
  have K1 := Lib.hid hk1
  clear hk1
  have c0 : w1.cell? ⟨b, 0, none⟩ = some (.pointer (some ⟨b, 0, none⟩)) := cell_at hbk (i := 0) rfl
  have c1 : w1.cell? ⟨b, 1, none⟩ = some v := cell_at hbk (i := 1) rfl
  have H0 := Lib.hid h0
  clear h0
  go_wp2_with (at_builtin; refine wpList_append_own _ rfl _ _ 39 rfl b 5 i0 (.int .u8 0) 1 1 Tryz.underlying39 hi hz0 hz1 hz2 rfl (by decide) _ _ _ rfl (hown.alloc _) ⟨w1.heap.size, 0, none⟩ 1 1 [.int .u8 c.toNat] rfl rfl ?c1 ?c2 ?c3 ?c4 ?c5 ?_)
  case c1 =>
    intro j u hj
    match j, hj with
    | 0, hj => simp at hj; subst hj; simp [Addr.add]
  case c2 => intro u hu; simp at hu; subst hu; rfl
  case c3 => unfold maxLen; omega
  case c4 => omega
  case c5 => simp; omega
  intro v' w2 hown' hgrow hnil
  have Hn := Lib.hid hnil
  clear hnil
  have hlt : b < w1.heap.size := lt_of_block hbk
  have hb2 : w2.heap[b]? = some (.cells #[.pointer (some ⟨b, 0, none⟩), v] 61 (0, 0)) := by
    rw [hgrow.block b (by simp; omega) (fun e => hne e.symm)]
    exact (Below.heap_alloc w1 _ b hlt).trans hbk
  have d0 : w2.cell? ⟨b, 0, none⟩ = some (.pointer (some ⟨b, 0, none⟩)) := cell_at hb2 (i := 0) rfl
  have d1 : w2.cell? ⟨b, 1, none⟩ = some v := cell_at hb2 (i := 1) rfl
  have f1 : w2.frozen? ⟨b, 1, none⟩ = false := Lib.frozen_of_heap hb2 1
  obtain ⟨ao, n', cap, rfl⟩ : ∃ ao n' cap, v' = .slice ao n' cap := by
    rcases hown'.2 with ⟨hv, _⟩ | ⟨g, cap, cur, hv, _⟩
    · exact ⟨_, _, _, hv⟩
    · exact ⟨_, _, _, hv⟩
  have hkind := Lib.hid (Lib.ownsRow_kind (hown.alloc (.cells #[.int .u8 c.toNat] 5)))
  have HG := Lib.hid hgrow
  have HO := Lib.hid hown'
  have HW := Lib.hid hown
  clear hgrow hown' hown
  go_wp2
  go_ret
  have hne' : (Value.slice ao n' cap).ownBlock ≠ some b := by
    intro he
    obtain ⟨c', fz', hc⟩ := Lib.ownsRow_kind HO.out _ he
    rw [hb2] at hc
    injection hc with hc
    injection hc with _ hc _
    exact absurd hc (by decide)
  have hgs : w2.grownBy (w2.setCell ⟨b, 1, none⟩ (.slice ao n' cap)) (some b) :=
    ⟨rfl, rfl, rfl, by simp [World.setCell], fun k _ hk => Below.heap_setCell _ _ _ _ (fun e => hk (by rw [e]))⟩
  refine ⟨rfl, ⟨_, .slice ao n' cap, .inr rfl, ?_, ?_, hne', ?_⟩, ⟨?_, ?_⟩⟩
  · simp [World.setCell, Array.getElem?_modify, hb2]
  · have := HO.out.kept hgs (.inr hne')
    rw [List.length_append, byteCells_append]
    exact this
  · intro hl
    simp at hl
  · exact ((K1.out.below.alloc (by omega) _).grown HG.out (by simp; omega) (fun k hk => (HW.out.lt k hk).1)).setCell (p := ⟨b, 1, none⟩) (Nat.le_refl _) _
  · exact ((K1.out.others.alloc _).grown HG.out hkind.out).setCell ⟨b, 1, none⟩ rfl _

set_option maxHeartbeats 1000000 in
set_option maxRecDepth 100000 in
theorem string_none (b : Nat) (p : Value) (w : World) (hbk : w.heap[b]? = some (.cells #[p, .slice none 0 0] 61 (0, 0))) :
    Calls Tryz.prog 39 #[.pointer (some ⟨b, 0, none⟩)] w fun e w' => e = .returned (.string ⟨#[]⟩) ∧ Below b w w' := by
  have c1 : w.drew.cell? ⟨b, 1, none⟩ = some (.slice none 0 0) := cell_at (w := w.drew) hbk (i := 1) rfl
  have hSD : (Builtin.unsafeSliceData_ #[39] 104 #[.slice none 0 0]).run Tryz.prog w.drew = .ok (.pointer none) w.drew := rfl
  have hUS : ∀ W : World, (Builtin.unsafeString_ #[104, 3] 9 #[.pointer none, .int .i64 0]).run Tryz.prog W = .ok (.string ⟨#[]⟩) W := fun W => by kernel_rfl
  go_enter Tryz.func39, Tryz.ntmps39
  go_wp2
  go_region
  all_goals (go_wp2; go_ret; exact ⟨rfl, Below.drew (Below.refl b w)⟩)
set_option maxHeartbeats 1000000 in
set_option maxRecDepth 100000 in
theorem string_some (b g cap : Nat) (p : Value) (cur : Array Value) (l : List UInt8) (w : World) (h0 : l ≠ []) (hbk : w.heap[b]? = some (.cells #[p, .slice (some ⟨g, 0, none⟩) l.length cap] 61 (0, 0)))
    (hbg : b ≤ g) (hg : w.heap[g]? = some (.cells cur 5 (0, 0))) (hnc : l.length ≤ cap) (hcm : cap ≤ maxLen) (hcs : cur.size = cap * 1) (htake : cur.toList.take (l.length * 1) = Lib.byteCells l) :
    Calls Tryz.prog 39 #[.pointer (some ⟨b, 0, none⟩)] w fun e w' => e = .returned (.string ⟨l.toArray⟩) ∧ Below b w w' := by
  have hl0 : l.length ≠ 0 := by simpa using h0
  have c1 : w.drew.cell? ⟨b, 1, none⟩ = some (.slice (some ⟨g, 0, none⟩) l.length cap) := cell_at (w := w.drew) hbk (i := 1) rfl
  have hSD : (Builtin.unsafeSliceData_ #[39] 104 #[.slice (some ⟨g, 0, none⟩) l.length cap]).run Tryz.prog w.drew = .ok (.pointer (some ⟨g, 0, none⟩)) w.drew :=
    Lib.run_unsafeSliceData_row _ _ _ _ _ _ (by omega)
  have hUS : (Builtin.unsafeString_ #[104, 3] 9 #[.pointer (some ⟨g, 0, none⟩), .int .i64 l.length]).run Tryz.prog w.drew = .ok (.string ⟨l.toArray⟩) (w.drew.freeze ⟨g, 0, none⟩ l.length) := by
    refine Lib.run_unsafeString_row w.drew 104 3 9 5 Tryz.underlying104 (by kernel_rfl) g cur.size (by have hg' : w.drew.heap[g]? = some (.cells cur 5 (0, 0)) := hg; simp [World.shape?, hg']) l h0 (by omega) (by unfold maxLen at hcm; omega) ?_
    intro j x hx
    have hown : w.ownsRow b 5 1 (.slice (some ⟨g, 0, none⟩) l.length cap) l.length (Lib.byteCells l) := ⟨by simp [Lib.byteCells], .inr ⟨g, cap, cur, rfl, hbg, hg, hnc, hcm, hcs, htake⟩⟩
    have := hown.cells (g := g) rfl j (.int .u8 x.toNat) (by simp [Lib.byteCells, hx])
    exact this
  go_enter Tryz.func39, Tryz.ntmps39
  go_wp2
  go_region
  all_goals (go_wp2; go_ret; exact ⟨rfl, Lib.below_freeze (Below.drew (Below.refl b w)) (p := ⟨g, 0, none⟩) hbg _⟩)
theorem string_any (b : Nat) (l : List UInt8) (w : World) (h : Bld b l w) :
    Calls Tryz.prog 39 #[.pointer (some ⟨b, 0, none⟩)] w fun e w' => e = .returned (.string ⟨l.toArray⟩) ∧ Below b w w' := by
  obtain ⟨p, v, _, hbk, hown, hne, h0⟩ := h
  cases l with
  | nil =>
    obtain rfl := h0 rfl
    exact string_none b p w hbk
  | cons x r =>
    rcases hown.2 with ⟨_, hz⟩ | ⟨g, cap, cur, rfl, hbg, hg, hnc, hcm, hcs, htake⟩
    · simp at hz
    · exact string_some b g cap p cur (x :: r) w (by simp) hbk hbg hg hnc hcm hcs htake
end Go.Proofs.YtoahaigfjfeopaaGreatDoor
