/- Texts joined: Pc Wg Wh Wi Wj Wk Wl Pd Wm. -/
import Derived.Test.YtoahaigfjfeopaaGreatDoorGa
import Derived.Lib.ItoaNum
import Derived.Lib.Builder
import Derived.Lib.OthersKept
import Derived.Lib.AppendStr
import Derived.Lib.UnsafeStr
import Derived.Lib.MakeNoZero
import Derived.Lib.OwnKind
import Derived.OrdersHeld
import Derived.Shelf.Strings.Builder1
import Derived.Test.YtoahaigfjfeopaaGreatDoorShelf
import Derived.Deep.RegionWith
import Derived.Deep.DeepFit
import Derived.BigRegion
import Derived.Lib.ItoaLen
import Derived.Laws.Concat
import Derived.Deep.DeepMust
/- The plain functions that the program computes, part 3: an instance as a text. No program, no memory. -/
namespace Go.Proofs.YtoahaigfjfeopaaGreatDoor

/-- Numbers, each with a space ahead. -/
def numsP (l : List Int) : List UInt8 := l.flatMap fun n => 32 :: Lib.itoa n
/-- The words of hard constraints; of how a sum is held against a number. -/
def wordsT : List (List UInt8) := [[], [116, 97, 98, 108, 101], [102, 111, 114, 98, 105, 100], [100, 105, 102, 102], [101, 113, 117, 97, 108], [114, 105, 115, 105, 110, 103], [108, 105, 110, 101, 97, 114]]
def howsT : List (List UInt8) := [[101, 113], [108, 101], [110, 101]]
def varT : List UInt8 := [118, 97, 114]
def softT : List UInt8 := [115, 111, 102, 116]
/-- A comma, but ahead of the first. -/
def commaP (i : Nat) : List UInt8 := if 0 < i then [44] else []
def rowsP : Nat → List (List Int) → List UInt8
  | _, [] => []
  | i, t :: r => commaP i ++ numsP t ++ rowsP (i + 1) r
def linP : Nat → List Int → List Int → List UInt8
  | i, a :: aa, v :: vs => commaP i ++ numsP [a, v] ++ linP (i + 1) aa vs
  | _, _, _ => []
def hardP (c : Con) : List UInt8 :=
  nth [] wordsT c.kind.toNat ++
    if c.kind = 6 then linP 0 c.args c.scope ++ ([58, 32] ++ nth [] howsT (nth 0 c.args c.scope.length).toNat) ++ numsP [nth 0 c.args (c.scope.length + 1)]
    else numsP c.scope ++ if 2 < c.kind then [] else [58] ++ rowsP 0 c.rows
def costsP : List (List Int) → List Int → List UInt8
  | t :: r, c :: cs => [44] ++ numsP t ++ numsP [c] ++ costsP r cs
  | _, _ => []
def softP (s : Sft) : List UInt8 := softT ++ numsP s.scope ++ [58] ++ numsP [s.dflt] ++ costsP s.rows s.costs
def endT : List UInt8 := [59, 10]
def domsP (l : List (List Int)) : List UInt8 := l.flatMap fun d => varT ++ numsP d ++ endT
def hardsP (l : List Con) : List UInt8 := l.flatMap fun c => hardP c ++ endT
def softsP (l : List Sft) : List UInt8 := l.flatMap fun s => softP s ++ endT
def printP (x : Ins) : List UInt8 := if rightB x = true then domsP x.doms ++ hardsP x.hard ++ softsP x.soft else []

/-- A number that the texts may tell. -/
def Fit (n : Int) : Prop := -1000000000000 ≤ n ∧ n ≤ 1000000000000
def Fits (l : List Int) : Prop := ∀ k, k < l.length → Fit (nth 0 l k)

theorem numsP_snoc (l : List Int) (k : Nat) (h : k < l.length) : numsP (l.take (k + 1)) = numsP (l.take k) ++ (32 :: Lib.itoa (nth 0 l k)) := by
  have e : l.take (k + 1) = l.take k ++ [nth 0 l k] := by
    rw [List.take_add_one, nth_get 0 l k h]; rfl
  rw [e]; simp [numsP]
theorem numsP_take_le (l : List Int) (k : Nat) : (numsP (l.take k)).length ≤ (numsP l).length := by
  have : numsP l = numsP (l.take k) ++ numsP (l.drop k) := by
    unfold numsP; rw [← List.flatMap_append, List.take_append_drop]
  rw [this]; simp

theorem take_snoc {α : Type} (z : α) (l : List α) (k : Nat) (h : k < l.length) : l.take (k + 1) = l.take k ++ [nth z l k] := by
  rw [List.take_add_one, nth_get z l k h]; rfl
theorem rowsP_snoc : ∀ (l : List (List Int)) (i : Nat) (t : List Int), rowsP i (l ++ [t]) = rowsP i l ++ (commaP (i + l.length) ++ numsP t)
  | [], i, t => by simp [rowsP]
  | a :: l, i, t => by
    simp only [List.cons_append, rowsP, rowsP_snoc l (i + 1) t, List.length_cons, List.append_assoc]
    rw [show i + 1 + l.length = i + (l.length + 1) from by omega]
theorem rowsP_step (l : List (List Int)) (k : Nat) (h : k < l.length) : rowsP 0 (l.take (k + 1)) = rowsP 0 (l.take k) ++ (commaP k ++ numsP (nth [] l k)) := by
  rw [take_snoc [] l k h, rowsP_snoc, List.length_take, Nat.min_eq_left (by omega), Nat.zero_add]
theorem rowsP_append (i : Nat) : ∀ (l m : List (List Int)), ∃ r, rowsP i (l ++ m) = rowsP i l ++ r := by
  intro l m
  induction l generalizing i with
  | nil => exact ⟨_, rfl⟩
  | cons a l ih => obtain ⟨r, hr⟩ := ih (i + 1); exact ⟨r, by simp only [List.cons_append, rowsP, hr, List.append_assoc]⟩
theorem rowsP_take_le (l : List (List Int)) (k : Nat) : (rowsP 0 (l.take k)).length ≤ (rowsP 0 l).length := by
  obtain ⟨r, hr⟩ := rowsP_append 0 (l.take k) (l.drop k)
  rw [List.take_append_drop] at hr
  rw [hr, List.length_append]; omega
theorem linP_snoc : ∀ (aa vs : List Int) (i : Nat) (a v : Int), aa.length = vs.length → linP i (aa ++ [a]) (vs ++ [v]) = linP i aa vs ++ (commaP (i + vs.length) ++ numsP [a, v])
  | [], [], i, a, v, _ => by simp [linP]
  | a0 :: aa, v0 :: vs, i, a, v, h => by
    simp only [List.length_cons, Nat.add_right_cancel_iff] at h
    simp only [List.cons_append, linP, linP_snoc aa vs (i + 1) a v h, List.length_cons, List.append_assoc]
    rw [show i + 1 + vs.length = i + (vs.length + 1) from by omega]
theorem linP_step (aa vs : List Int) (k : Nat) (h : k < vs.length) (h' : k < aa.length) : linP 0 (aa.take (k + 1)) (vs.take (k + 1)) = linP 0 (aa.take k) (vs.take k) ++ (commaP k ++ numsP [nth 0 aa k, nth 0 vs k]) := by
  rw [take_snoc 0 aa k h', take_snoc 0 vs k h, linP_snoc _ _ _ _ _ (by rw [List.length_take, List.length_take]; omega), List.length_take, Nat.min_eq_left (by omega), Nat.zero_add]
theorem linP_all : ∀ (aa vs : List Int) (i : Nat), linP i (aa.take vs.length) vs = linP i aa vs
  | [], vs, i => by simp
  | a :: aa, [], i => by simp [linP]
  | a :: aa, v :: vs, i => by simp only [List.length_cons, List.take_succ_cons, linP, linP_all aa vs (i + 1)]
theorem linP_append (i : Nat) : ∀ (aa vs bs us : List Int), aa.length = vs.length → ∃ r, linP i (aa ++ bs) (vs ++ us) = linP i aa vs ++ r := by
  intro aa
  induction aa generalizing i with
  | nil => intro vs bs us h; cases vs with
    | nil => exact ⟨_, rfl⟩
    | cons v vs => simp at h
  | cons a aa ih => intro vs bs us h; cases vs with
    | nil => simp at h
    | cons v vs =>
      simp only [List.length_cons, Nat.add_right_cancel_iff] at h
      obtain ⟨r, hr⟩ := ih (i + 1) vs bs us h
      exact ⟨r, by simp only [List.cons_append, linP, hr, List.append_assoc]⟩
theorem linP_take_le (aa vs : List Int) (k : Nat) (h : k ≤ vs.length) (h' : vs.length ≤ aa.length) : (linP 0 (aa.take k) (vs.take k)).length ≤ (linP 0 aa vs).length := by
  obtain ⟨r, hr⟩ := linP_append 0 (aa.take k) (vs.take k) (aa.drop k) (vs.drop k) (by rw [List.length_take, List.length_take]; omega)
  rw [List.take_append_drop, List.take_append_drop] at hr
  rw [hr, List.length_append]; omega
theorem numsP_two (a v : Int) : numsP [a, v] = (32 :: Lib.itoa a) ++ (32 :: Lib.itoa v) := by simp [numsP]
theorem fits_two {a v : Int} (h : Fit a) (h' : Fit v) : Fits [a, v] := by
  intro k hk
  match k, hk with
  | 0, _ => exact h
  | 1, _ => exact h'
theorem fits_one {a : Int} (h : Fit a) : Fits [a] := by
  intro k hk
  match k, hk with
  | 0, _ => exact h

theorem costsP_snoc : ∀ (l : List (List Int)) (cs : List Int) (t : List Int) (c : Int), l.length = cs.length → costsP (l ++ [t]) (cs ++ [c]) = costsP l cs ++ ([44] ++ (numsP t ++ numsP [c]))
  | [], [], t, c, _ => by simp [costsP]
  | a :: l, b :: cs, t, c, h => by
    simp only [List.length_cons, Nat.add_right_cancel_iff] at h
    simp only [List.cons_append, costsP, costsP_snoc l cs t c h, List.append_assoc, List.nil_append]
theorem costsP_step (l : List (List Int)) (cs : List Int) (k : Nat) (h : k < l.length) (h' : l.length = cs.length) : costsP (l.take (k + 1)) (cs.take (k + 1)) = costsP (l.take k) (cs.take k) ++ ([44] ++ (numsP (nth [] l k) ++ numsP [nth 0 cs k])) := by
  rw [take_snoc [] l k h, take_snoc 0 cs k (by omega), costsP_snoc _ _ _ _ (by rw [List.length_take, List.length_take]; omega)]
theorem costsP_append : ∀ (l m : List (List Int)) (cs ds : List Int), l.length = cs.length → ∃ r, costsP (l ++ m) (cs ++ ds) = costsP l cs ++ r
  | [], m, [], ds, _ => ⟨_, rfl⟩
  | a :: l, m, b :: cs, ds, h => by
    simp only [List.length_cons, Nat.add_right_cancel_iff] at h
    obtain ⟨r, hr⟩ := costsP_append l m cs ds h
    exact ⟨r, by simp only [List.cons_append, costsP, hr, List.append_assoc, List.nil_append]⟩
theorem costsP_take_le (l : List (List Int)) (cs : List Int) (k : Nat) (h' : l.length = cs.length) : (costsP (l.take k) (cs.take k)).length ≤ (costsP l cs).length := by
  obtain ⟨r, hr⟩ := costsP_append (l.take k) (l.drop k) (cs.take k) (cs.drop k) (by rw [List.length_take, List.length_take]; omega)
  rw [List.take_append_drop, List.take_append_drop] at hr
  rw [hr, List.length_append]; omega
end Go.Proofs.YtoahaigfjfeopaaGreatDoor

/- A strings.Builder embedded in inst's printer: what WriteString, WriteByte and String do to it. (Turned from the worked proofs of the shelf, at the printer's own type.) -/
namespace Go.Proofs.YtoahaigfjfeopaaGreatDoor
open Go.RowKit

/-- The printer in block b holds the bytes l. -/
def Bld (b : Nat) (l : List UInt8) (w : World) : Prop :=
  ∃ p v, (p = .pointer none ∨ p = .pointer (some ⟨b, 0, none⟩)) ∧ w.heap[b]? = some (.cells #[p, v] 61 (0, 0)) ∧ w.ownsRow b 5 1 v l.length (Lib.byteCells l) ∧ v.ownBlock ≠ some b ∧ (l = [] → v = .slice none 0 0)
/-- What a call on the printer in block b keeps. -/
structure Kep (b : Nat) (w w' : World) : Prop where
  below : Below b w w'
  others : Lib.OthersKept 5 (some b) w w'
theorem Kep.refl (b : Nat) (w : World) : Kep b w w := ⟨Below.refl _ _, Lib.OthersKept.refl _ _ _⟩
theorem Kep.trans {b : Nat} {w w1 w2 : World} (h : Kep b w w1) (k : Kep b w1 w2) : Kep b w w2 := ⟨h.below.trans k.below, h.others.trans k.others⟩

set_option maxRecDepth 100000 in
theorem copyCheck_used (b : Nat) (w : World) (h0 : w.cell? ⟨b, 0, none⟩ = some (.pointer (some ⟨b, 0, none⟩))) :
    Calls Tryz.prog 62 #[.pointer (some ⟨b, 0, none⟩)] w fun e w' => e = .returned (.tuple #[]) ∧ w' = w := by
  obtain ⟨j, hj, _⟩ := Option.map_eq_some_iff.1 (show (Tryz.prog.info? 59).map (·.size) = some 2 by kernel_rfl)
  go_enter Tryz.func62, Tryz.ntmps62
  go_wp2
  rw [Lib.run_neq_ptr_same w _ Tryz.underlying57 hj]
  go_wp2
  go_end0
  exact ⟨rfl, rfl⟩
set_option maxRecDepth 100000 in
theorem copyCheck_fresh (b : Nat) (w : World) (h0 : w.cell? ⟨b, 0, none⟩ = some (.pointer none)) (hsh : w.shape? b = some (61, 2)) (hfz : w.frozen? ⟨b, 0, none⟩ = false) :
    Calls Tryz.prog 62 #[.pointer (some ⟨b, 0, none⟩)] w fun e w' => e = .returned (.tuple #[]) ∧ w' = w.setCell ⟨b, 0, none⟩ (.pointer (some ⟨b, 0, none⟩)) := by
  obtain ⟨j, hj, hjs⟩ := Option.map_eq_some_iff.1 (show (Tryz.prog.info? 59).map (·.size) = some 2 by kernel_rfl)
  go_enter Tryz.func62, Tryz.ntmps62
  go_wp2
  rw [Lib.run_to_unsafe w ⟨b, 0, none⟩ Tryz.underlying57 Tryz.underlying122 hj (by rw [hjs]; decide) hsh (Nat.zero_lt_succ 1)]
  simp only [Result.andThen]
  rw [Oper.upon_value]
  go_wp2
  rw [run_callFunc_extern Tryz.func92 (by kernel_rfl) (by kernel_rfl) (by kernel_rfl) (e := Extern.AbiNoEscape.same) (by kernel_rfl)]
  rw [Lib.run_noEscape]
  simp only [Result.andThen]
  rw [Oper.upon_value]
  go_wp2
  rw [Lib.run_from_unsafe w ⟨b, 0, none⟩ Tryz.underlying122 Tryz.underlying57 hj hsh (by kernel_rfl)]
  simp only [Result.andThen]
  rw [Oper.upon_value]
  go_wp2
  go_end0
  exact ⟨rfl, rfl⟩
theorem byteCells_append (l m : List UInt8) : Lib.byteCells (l ++ m) = Lib.byteCells l ++ Lib.byteCells m := by simp [Lib.byteCells]
theorem lt_of_block {w : World} {b : Nat} {o : Obj} (h : w.heap[b]? = some o) : b < w.heap.size := (Array.getElem?_eq_some_iff.1 h).1
/-- Behind copyCheck the printer is used. -/
theorem copyCheck_any (b : Nat) (l : List UInt8) (w : World) (h : Bld b l w) :
    Calls Tryz.prog 62 #[.pointer (some ⟨b, 0, none⟩)] w fun e w' => e = .returned (.tuple #[]) ∧
      (∃ v, w'.heap[b]? = some (.cells #[.pointer (some ⟨b, 0, none⟩), v] 61 (0, 0)) ∧ w'.ownsRow b 5 1 v l.length (Lib.byteCells l) ∧ v.ownBlock ≠ some b ∧ (l = [] → v = .slice none 0 0)) ∧ Kep b w w' := by
  obtain ⟨p, v, hp, hbk, hown, hne, h0⟩ := h
  rcases hp with rfl | rfl
  · refine (copyCheck_fresh b w (cell_at hbk (i := 0) rfl) (by simp [World.shape?, hbk]) (Lib.frozen_of_heap hbk 0)).mono ?_
    rintro e w' ⟨rfl, rfl⟩
    have hb' : (w.setCell ⟨b, 0, none⟩ (.pointer (some ⟨b, 0, none⟩))).heap[b]? = some (.cells #[.pointer (some ⟨b, 0, none⟩), v] 61 (0, 0)) := by
      simp [World.setCell, Array.getElem?_modify, hbk]
    have hg : w.grownBy (w.setCell ⟨b, 0, none⟩ (.pointer (some ⟨b, 0, none⟩))) (some b) :=
      ⟨rfl, rfl, rfl, by simp [World.setCell], fun k _ hk => Below.heap_setCell _ _ _ _ (fun e => hk (by rw [e]))⟩
    exact ⟨rfl, ⟨v, hb', hown.kept hg (.inr hne), hne, h0⟩, (Below.refl b w).setCell (p := ⟨b, 0, none⟩) (Nat.le_refl _) _, (Lib.OthersKept.refl _ _ w).setCell ⟨b, 0, none⟩ rfl _⟩
  · refine (copyCheck_used b w (cell_at hbk (i := 0) rfl)).mono ?_
    rintro e w' ⟨rfl, rfl⟩
    exact ⟨rfl, ⟨v, hbk, hown, hne, h0⟩, Kep.refl _ _⟩

set_option maxHeartbeats 1000000 in
set_option maxRecDepth 100000 in
theorem writeString_any (b : Nat) (l : List UInt8) (s : ByteArray) (w : World) (h : Bld b l w) (hlen : l.length + s.size ≤ 140737488355328) :
    Calls Tryz.prog 35 #[.pointer (some ⟨b, 0, none⟩), .string s] w fun e w' => e = .returned (.tuple #[.int .i64 s.size, .nilIface]) ∧ Bld b (l ++ s.data.toList) w' ∧ Kep b w w' := by
  obtain ⟨i0, hi, hz0, hz1, hz2⟩ := info_parts (show (Tryz.prog.info? 5).map (fun i => (i.zero, i.size, i.bytes)) = some (some (.int .u8 0), 1, 1) by kernel_rfl)
  have hbw : b < w.heap.size := by obtain ⟨p, v, _, hbk, _⟩ := h; exact lt_of_block hbk
  go_enter Tryz.func35, Tryz.ntmps35
  go_wp2_with (go_at_call 62; refine (copyCheck_any b l _ h).mono ?_)
  rintro e w1 ⟨rfl, ⟨v, hbk, hown, hne, h0⟩, hk1⟩
  have hsz := hk1.below.size
  have K1 := Lib.hid hk1
  clear hk1
  have c0 : w1.cell? ⟨b, 0, none⟩ = some (.pointer (some ⟨b, 0, none⟩)) := cell_at hbk (i := 0) rfl
  have c1 : w1.cell? ⟨b, 1, none⟩ = some v := cell_at hbk (i := 1) rfl
  have H0 := Lib.hid h0
  clear h0
  go_wp2_with (at_builtin; refine Lib.wpList_append_own_string _ rfl _ _ 39 9 rfl b 5 i0 Tryz.underlying39 Tryz.underlying9 hi hz0 hz1 hz2 _ _ _ rfl hown s rfl ?c3 ?c4 ?c5 ?_)
  case c3 => unfold maxLen; omega
  case c4 => omega
  case c5 => omega
  intro v' w2 hown' hgrow hnil
  have Hn := Lib.hid hnil
  clear hnil
  have hlt : b < w1.heap.size := lt_of_block hbk
  have hb2 : w2.heap[b]? = some (.cells #[.pointer (some ⟨b, 0, none⟩), v] 61 (0, 0)) := by
    rw [hgrow.block b hlt (fun e => hne e.symm)]
    exact hbk
  have d0 : w2.cell? ⟨b, 0, none⟩ = some (.pointer (some ⟨b, 0, none⟩)) := cell_at hb2 (i := 0) rfl
  have d1 : w2.cell? ⟨b, 1, none⟩ = some v := cell_at hb2 (i := 1) rfl
  have f1 : w2.frozen? ⟨b, 1, none⟩ = false := Lib.frozen_of_heap hb2 1
  obtain ⟨ao, n', cap, rfl⟩ : ∃ ao n' cap, v' = .slice ao n' cap := by
    rcases hown'.2 with ⟨hv, _⟩ | ⟨g, cap, cur, hv, _⟩
    · exact ⟨_, _, _, hv⟩
    · exact ⟨_, _, _, hv⟩
  have hkind := Lib.hid (Lib.ownsRow_kind hown)
  have HG := Lib.hid hgrow
  have HO := Lib.hid hown'
  have HW := Lib.hid hown
  clear hgrow hown' hown
  go_wp2
  go_ret2
  have hne' : (Value.slice ao n' cap).ownBlock ≠ some b := by
    intro he
    obtain ⟨c', fz', hc⟩ := Lib.ownsRow_kind HO.out _ he
    rw [hb2] at hc
    injection hc with hc
    injection hc with _ hc _
    exact absurd hc (by decide)
  have hgs : w2.grownBy (w2.setCell ⟨b, 1, none⟩ (.slice ao n' cap)) (some b) :=
    ⟨rfl, rfl, rfl, by simp [World.setCell], fun k _ hk => Below.heap_setCell _ _ _ _ (fun e => hk (by rw [e]))⟩
  refine ⟨rfl, ⟨_, .slice ao n' cap, .inr rfl, ?_, ?_, hne', ?_⟩, ⟨?_, ?_⟩⟩
  · simp [World.setCell, Array.getElem?_modify, hb2]
  · have := HO.out.kept hgs (.inr hne')
    rw [List.length_append, byteCells_append]
    exact this
  · intro hl
    obtain ⟨hl1, hl2⟩ := List.append_eq_nil_iff.1 hl
    exact Hn.out.2 ⟨H0.out hl1, by have := congrArg List.length hl2; simpa using this⟩
  · exact (K1.out.below.grown HG.out (by omega) (fun k hk => (HW.out.lt k hk).1)).setCell (p := ⟨b, 1, none⟩) (Nat.le_refl _) _
  · exact (K1.out.others.grown HG.out hkind.out).setCell ⟨b, 1, none⟩ rfl _
set_option maxHeartbeats 1000000 in
set_option maxRecDepth 100000 in
theorem writeByte_any (b : Nat) (l : List UInt8) (c : UInt8) (w : World) (h : Bld b l w) (hlen : l.length + 1 ≤ 140737488355328) :
    Calls Tryz.prog 65 #[.pointer (some ⟨b, 0, none⟩), .int .u8 c.toNat] w fun e w' => e = .returned .nilIface ∧ Bld b (l ++ [c]) w' ∧ Kep b w w' := by
  obtain ⟨i0, hi, hz0, hz1, hz2⟩ := info_parts (show (Tryz.prog.info? 5).map (fun i => (i.zero, i.size, i.bytes)) = some (some (.int .u8 0), 1, 1) by kernel_rfl)
  have hbw : b < w.heap.size := by obtain ⟨p, v, _, hbk, _⟩ := h; exact lt_of_block hbk
  go_enter Tryz.func65, Tryz.ntmps65
  go_wp2_with (go_at_call 62; refine (copyCheck_any b l _ h).mono ?_)
  rintro e w1 ⟨rfl, ⟨v, hbk, hown, hne, h0⟩, hk1⟩
  have hsz := hk1.below.size
  have K1 := Lib.hid hk1
  clear hk1
  have c0 : w1.cell? ⟨b, 0, none⟩ = some (.pointer (some ⟨b, 0, none⟩)) := cell_at hbk (i := 0) rfl
  have c1 : w1.cell? ⟨b, 1, none⟩ = some v := cell_at hbk (i := 1) rfl
  have H0 := Lib.hid h0
  clear h0
  go_wp2_with (at_builtin; refine wpList_append_own _ rfl _ _ 39 rfl b 5 i0 (.int .u8 0) 1 1 Tryz.underlying39 hi hz0 hz1 hz2 rfl (by decide) _ _ _ rfl (hown.alloc _) ⟨w1.heap.size, 0, none⟩ 1 1 [.int .u8 c.toNat] rfl rfl ?c1 ?c2 ?c3 ?c4 ?c5 ?_)
  case c1 =>
    intro j u hj
    match j, hj with
    | 0, hj => simp at hj; subst hj; simp [Addr.add]
  case c2 => intro u hu; simp at hu; subst hu; rfl
  case c3 => unfold maxLen; omega
  case c4 => omega
  case c5 => simp; omega
  intro v' w2 hown' hgrow hnil
  have Hn := Lib.hid hnil
  clear hnil
  have hlt : b < w1.heap.size := lt_of_block hbk
  have hb2 : w2.heap[b]? = some (.cells #[.pointer (some ⟨b, 0, none⟩), v] 61 (0, 0)) := by
    rw [hgrow.block b (by simp; omega) (fun e => hne e.symm)]
    exact (Below.heap_alloc w1 _ b hlt).trans hbk
  have d0 : w2.cell? ⟨b, 0, none⟩ = some (.pointer (some ⟨b, 0, none⟩)) := cell_at hb2 (i := 0) rfl
  have d1 : w2.cell? ⟨b, 1, none⟩ = some v := cell_at hb2 (i := 1) rfl
  have f1 : w2.frozen? ⟨b, 1, none⟩ = false := Lib.frozen_of_heap hb2 1
  obtain ⟨ao, n', cap, rfl⟩ : ∃ ao n' cap, v' = .slice ao n' cap := by
    rcases hown'.2 with ⟨hv, _⟩ | ⟨g, cap, cur, hv, _⟩
    · exact ⟨_, _, _, hv⟩
    · exact ⟨_, _, _, hv⟩
  have hkind := Lib.hid (Lib.ownsRow_kind (hown.alloc (.cells #[.int .u8 c.toNat] 5)))
  have HG := Lib.hid hgrow
  have HO := Lib.hid hown'
  have HW := Lib.hid hown
  clear hgrow hown' hown
  go_wp2
  go_ret
  have hne' : (Value.slice ao n' cap).ownBlock ≠ some b := by
    intro he
    obtain ⟨c', fz', hc⟩ := Lib.ownsRow_kind HO.out _ he
    rw [hb2] at hc
    injection hc with hc
    injection hc with _ hc _
    exact absurd hc (by decide)
  have hgs : w2.grownBy (w2.setCell ⟨b, 1, none⟩ (.slice ao n' cap)) (some b) :=
    ⟨rfl, rfl, rfl, by simp [World.setCell], fun k _ hk => Below.heap_setCell _ _ _ _ (fun e => hk (by rw [e]))⟩
  refine ⟨rfl, ⟨_, .slice ao n' cap, .inr rfl, ?_, ?_, hne', ?_⟩, ⟨?_, ?_⟩⟩
  · simp [World.setCell, Array.getElem?_modify, hb2]
  · have := HO.out.kept hgs (.inr hne')
    rw [List.length_append, byteCells_append]
    exact this
  · intro hl
    simp at hl
  · exact ((K1.out.below.alloc (by omega) _).grown HG.out (by simp; omega) (fun k hk => (HW.out.lt k hk).1)).setCell (p := ⟨b, 1, none⟩) (Nat.le_refl _) _
  · exact ((K1.out.others.alloc _).grown HG.out hkind.out).setCell ⟨b, 1, none⟩ rfl _

set_option maxHeartbeats 1000000 in
set_option maxRecDepth 100000 in
theorem string_none (b : Nat) (p : Value) (w : World) (hbk : w.heap[b]? = some (.cells #[p, .slice none 0 0] 61 (0, 0))) :
    Calls Tryz.prog 39 #[.pointer (some ⟨b, 0, none⟩)] w fun e w' => e = .returned (.string ⟨#[]⟩) ∧ Below b w w' := by
  have c1 : w.drew.cell? ⟨b, 1, none⟩ = some (.slice none 0 0) := cell_at (w := w.drew) hbk (i := 1) rfl
  have hSD : (Builtin.unsafeSliceData_ #[39] 104 #[.slice none 0 0]).run Tryz.prog w.drew = .ok (.pointer none) w.drew := rfl
  have hUS : ∀ W : World, (Builtin.unsafeString_ #[104, 3] 9 #[.pointer none, .int .i64 0]).run Tryz.prog W = .ok (.string ⟨#[]⟩) W := fun W => by kernel_rfl
  go_enter Tryz.func39, Tryz.ntmps39
  go_wp2
  go_region
  all_goals (go_wp2; go_ret; exact ⟨rfl, Below.drew (Below.refl b w)⟩)
set_option maxHeartbeats 1000000 in
set_option maxRecDepth 100000 in
theorem string_some (b g cap : Nat) (p : Value) (cur : Array Value) (l : List UInt8) (w : World) (h0 : l ≠ []) (hbk : w.heap[b]? = some (.cells #[p, .slice (some ⟨g, 0, none⟩) l.length cap] 61 (0, 0)))
    (hbg : b ≤ g) (hg : w.heap[g]? = some (.cells cur 5 (0, 0))) (hnc : l.length ≤ cap) (hcm : cap ≤ maxLen) (hcs : cur.size = cap * 1) (htake : cur.toList.take (l.length * 1) = Lib.byteCells l) :
    Calls Tryz.prog 39 #[.pointer (some ⟨b, 0, none⟩)] w fun e w' => e = .returned (.string ⟨l.toArray⟩) ∧ Below b w w' := by
  have hl0 : l.length ≠ 0 := by simpa using h0
  have c1 : w.drew.cell? ⟨b, 1, none⟩ = some (.slice (some ⟨g, 0, none⟩) l.length cap) := cell_at (w := w.drew) hbk (i := 1) rfl
  have hSD : (Builtin.unsafeSliceData_ #[39] 104 #[.slice (some ⟨g, 0, none⟩) l.length cap]).run Tryz.prog w.drew = .ok (.pointer (some ⟨g, 0, none⟩)) w.drew :=
    Lib.run_unsafeSliceData_row _ _ _ _ _ _ (by omega)
  have hUS : (Builtin.unsafeString_ #[104, 3] 9 #[.pointer (some ⟨g, 0, none⟩), .int .i64 l.length]).run Tryz.prog w.drew = .ok (.string ⟨l.toArray⟩) (w.drew.freeze ⟨g, 0, none⟩ l.length) := by
    refine Lib.run_unsafeString_row w.drew 104 3 9 5 Tryz.underlying104 (by kernel_rfl) g cur.size (by have hg' : w.drew.heap[g]? = some (.cells cur 5 (0, 0)) := hg; simp [World.shape?, hg']) l h0 (by omega) (by unfold maxLen at hcm; omega) ?_
    intro j x hx
    have hown : w.ownsRow b 5 1 (.slice (some ⟨g, 0, none⟩) l.length cap) l.length (Lib.byteCells l) := ⟨by simp [Lib.byteCells], .inr ⟨g, cap, cur, rfl, hbg, hg, hnc, hcm, hcs, htake⟩⟩
    have := hown.cells (g := g) rfl j (.int .u8 x.toNat) (by simp [Lib.byteCells, hx])
    exact this
  go_enter Tryz.func39, Tryz.ntmps39
  go_wp2
  go_region
  all_goals (go_wp2; go_ret; exact ⟨rfl, Lib.below_freeze (Below.drew (Below.refl b w)) (p := ⟨g, 0, none⟩) hbg _⟩)
theorem string_any (b : Nat) (l : List UInt8) (w : World) (h : Bld b l w) :
    Calls Tryz.prog 39 #[.pointer (some ⟨b, 0, none⟩)] w fun e w' => e = .returned (.string ⟨l.toArray⟩) ∧ Below b w w' := by
  obtain ⟨p, v, _, hbk, hown, hne, h0⟩ := h
  cases l with
  | nil =>
    obtain rfl := h0 rfl
    exact string_none b p w hbk
  | cons x r =>
    rcases hown.2 with ⟨_, hz⟩ | ⟨g, cap, cur, rfl, hbg, hg, hnc, hcm, hcs, htake⟩
    · simp at hz
    · exact string_some b g cap p cur (x :: r) w (by simp) hbk hbg hg hnc hcm hcs htake
end Go.Proofs.YtoahaigfjfeopaaGreatDoor

/- What the printer's methods write. -/
namespace Go.Proofs.YtoahaigfjfeopaaGreatDoor
open Go.RowKit

/-- What the package's variables hold. -/
structure Env (w : World) : Prop where
  words : ∃ t fr, w.heap[0]? = some (.cells (wordsT.map fun l => Value.string ⟨l.toArray⟩).toArray t fr)
  hows : ∃ t fr, w.heap[1]? = some (.cells (howsT.map fun l => Value.string ⟨l.toArray⟩).toArray t fr)
  pow : Lib.TabIs Tryz.prog w "internal/strconv.uint64pow10" .u64 Lib.pow10Tab
  syn : ∃ tp p, w.var? Tryz.prog "strconv.ErrSyntax" = some #[.iface tp p]
  rng : ∃ tp p, w.var? Tryz.prog "strconv.ErrRange" = some #[.iface tp p]
  size : 8 ≤ w.heap.size
theorem var_below {P : Program} {w w' : World} {B : Nat} {name : String} {g : Nat} (hg : P.globalNamed name = some g) (hB : g < B) (hb : Below B w w') : w'.var? P name = w.var? P name := by
  simp only [World.var?, hg, Option.bind_some]
  rw [hb.block g hB]
theorem Env.below {w w' : World} {B : Nat} (h : Env w) (hb : Below B w w') (hB : 8 ≤ B) : Env w' where
  words := by obtain ⟨t, fr, h1⟩ := h.words; exact ⟨t, fr, (hb.block _ (by omega)).trans h1⟩
  hows := by obtain ⟨t, fr, h1⟩ := h.hows; exact ⟨t, fr, (hb.block _ (by omega)).trans h1⟩
  pow := (var_below (g := 2) (by kernel_rfl) (by omega) hb).trans h.pow
  syn := by obtain ⟨tp, p, h1⟩ := h.syn; exact ⟨tp, p, (var_below (g := 4) (by kernel_rfl) (by omega) hb).trans h1⟩
  rng := by obtain ⟨tp, p, h1⟩ := h.rng; exact ⟨tp, p, (var_below (g := 5) (by kernel_rfl) (by omega) hb).trans h1⟩
  size := Nat.le_trans h.size hb.size
theorem Env.word {w : World} (h : Env w) (k : Nat) (hk : k < 7) : w.cell? ⟨0, k, none⟩ = some (.string ⟨(nth [] wordsT k).toArray⟩) := by
  obtain ⟨t, fr, h1⟩ := h.words
  refine cell_at h1 ?_
  match k, hk with
  | 0, _ | 1, _ | 2, _ | 3, _ | 4, _ | 5, _ | 6, _ => rfl
theorem Env.how {w : World} (h : Env w) (k : Nat) (hk : k < 3) : w.cell? ⟨1, k, none⟩ = some (.string ⟨(nth [] howsT k).toArray⟩) := by
  obtain ⟨t, fr, h1⟩ := h.hows
  refine cell_at h1 ?_
  match k, hk with
  | 0, _ | 1, _ | 2, _ => rfl

theorem Kep.sl {α : Type} {d : Kd α} {w w1 : World} {ok : Nat → Prop} {v : Value} {xs : List α} {b : Nat} (hs : 0 < d.sz) (h : Sl d w ok v xs) (hk : Kep b w w1) (hok : ∀ k, ok k → k < b) : Sl d w1 ok v xs :=
  (h.move hs fun k ho _ => hk.below.block k (hok k ho)).mono fun _ h => h.1
theorem grow_below (w : World) (k : Nat) (os : Array Obj) : Below w.heap.size w (Go.Sort.grow (w.drewN k) os) :=
  ⟨rfl, rfl, rfl, by simp [Go.Sort.grow], fun i hi => by show (w.heap ++ os)[i]? = w.heap[i]?; rw [Array.getElem?_append, if_pos hi]⟩
theorem itoa_any (n : Int) (w : World) (h : Fit n) (he : Env w) :
    Calls Tryz.prog 63 #[.int .i64 n] w fun e w' => e = .returned (.string ⟨(Lib.itoa n).toArray⟩) ∧ Below w.heap.size w w' := by
  refine (Tryz.strconv_Itoa n (by have := h.1; omega) (by have := h.2; omega) w he.pow).mono ?_
  rintro e w' ⟨rfl, k, os, rfl⟩
  exact ⟨rfl, grow_below w k os⟩
theorem Bld.move {b : Nat} {l : List UInt8} {w w1 : World} (h : Bld b l w) (hb : Below w.heap.size w w1) : Bld b l w1 := by
  obtain ⟨p, v, hp, hbk, hown, hne, h0⟩ := h
  refine ⟨p, v, hp, block_kept hb hbk, hown.kept (row := none) ⟨hb.os, hb.tape, hb.output, hb.size, fun k hk _ => hb.block k hk⟩ ?_, hne, h0⟩
  cases v.ownBlock <;> simp

theorem kep_of_below {b : Nat} {w w1 : World} (hb : Below w.drew.heap.size w.drew w1) (hw : b ≤ w.heap.size) : Kep b w w1 :=
  ⟨(Below.drew (Below.refl b w)).trans (hb.mono hw), fun k _ hk _ _ => (hb.block k (Array.getElem?_eq_some_iff.1 hk).1).trans hk⟩
set_option maxRecDepth 100000 in
set_option maxHeartbeats 1000000 in
theorem numbers_any (b : Nat) (l : List UInt8) (v : Value) (xs : List Int) (ok : Nat → Prop) (w : World) (hB : Bld b l w) (hE : Env w) (hb8 : 8 ≤ b) (h1 : Sl (Kd.int .i64) w ok v xs) (hok : ∀ k, ok k → k < b ∨ ∃ c t fr, w.heap[k]? = some (.cells c t fr) ∧ t ≠ 5 ∧ k ≠ b) (hf : Fits xs) (hlen : l.length + (numsP xs).length ≤ 140737488355328) :
    Calls Tryz.prog 36 #[.pointer (some ⟨b, 0, none⟩), v] w fun e w' => e = .returned (.tuple #[]) ∧ Bld b (l ++ numsP xs) w' ∧ Kep b w w' := by
  have H1 := h1
  obtain ⟨A, c, rfl, hc, hm, hA⟩ := h1
  clear hA
  have hfx := Lib.hid hf
  clear hf
  have keep : ∀ W, Kep b w W → Sl (Kd.int .i64) W ok (.slice A xs.length c) xs := by
    intro W hk
    refine (H1.move (by decide) fun k ho hlt => ?_).mono fun _ h => h.1
    rcases hok k ho with h | ⟨c, t, fr, h, ht, hkb⟩
    · exact hk.below.block k h
    · exact (hk.others k _ h (by simpa using hkb) (fun c' fz e => ht (by injection e))).trans h.symm
  have HK := Lib.hid keep
  clear keep H1 hok
  have HE := Lib.hid hE
  have HB := Lib.hid hB
  clear hE hB
  go_enter Tryz.func36, Tryz.ntmps36
  go_wp2
  go_loopw [8] (fun i wr => ∃ k : Nat, i = .int .i64 k ∧ k ≤ xs.length ∧ Hid (Bld b (l ++ numsP (xs.take k)) wr) ∧ Hid (Kep b w wr)) (fun i _ => xs.length - (intOf i).toNat)
  case atStart => exact ⟨0, rfl, by omega, Lib.hid (by simpa [numsP] using HB.out), Lib.hid (Kep.refl _ _)⟩
  case round =>
    obtain ⟨k, rfl, hk, HB', HK'⟩ := hrel
    by_cases hlt : k < xs.length
    · obtain ⟨b1, o1, rfl, c1⟩ := (Sl.elems (HK.out _ HK'.out)).num hlt
      have hfk := hfx.out k hlt
      have hstep := numsP_snoc xs k hlt
      have hle := numsP_take_le xs (k + 1)
      have hit := Lib.hid (itoa_any (nth 0 xs k) wr.drew hfk (HE.out.below HK'.out.below.drew hb8))
      have hbl : l.length + (numsP (xs.take k)).length + (32 :: Lib.itoa (nth 0 xs k)).length ≤ 140737488355328 := by
        rw [hstep, List.length_append] at hle; omega
      have HS := Lib.hid hstep
      have HL := Lib.hid hbl
      have hil := Lib.itoa_length_le (nth 0 xs k) (by have := hfk.1; omega) (by have := hfk.2; omega)
      clear hstep hbl hle hfk
      have hdt : Hid ((ByteArray.mk #[32] ++ ByteArray.mk (Lib.itoa (nth 0 xs k)).toArray).data.toList = 32 :: Lib.itoa (nth 0 xs k)) := Lib.hid (by simp)
      have hsz : Hid ((l ++ numsP (xs.take k)).length + (ByteArray.mk #[32] ++ ByteArray.mk (Lib.itoa (nth 0 xs k)).toArray).size ≤ 140737488355328) := Lib.hid (by
        have := HL.out; rw [List.length_cons] at this; simp [ByteArray.size]; omega)
      have hbw : Hid (b ≤ wr.heap.size) := Lib.hid (by obtain ⟨_, _, _, h, _⟩ := HB'.out; have := lt_of_block h; omega)
      have HBd := Lib.hid (HB'.out.move (Below.drew (Below.refl wr.heap.size wr)))
      go_wp2
      go_region_with (first
        | (go_at_call 63; refine hit.out.mono ?_; rintro e w' ⟨rfl, hb⟩; have hb' := Lib.hid hb; clear hb)
        | (go_at_call 35; refine (writeString_any b _ _ _ (HBd.out.move hb'.out) hsz.out).mono ?_; rintro e w2 ⟨rfl, hB2, hk2⟩; rw [hdt.out] at hB2; have HB2 := Lib.hid hB2; have HK2 := Lib.hid hk2; clear hB2 hk2))
      go_wp2
      go_roundw
      case rel => exact ⟨k + 1, by go_num, by omega, Lib.hid (by rw [HS.out, ← List.append_assoc]; exact HB2.out), Lib.hid (HK'.out.trans ((kep_of_below hb'.out hbw.out).trans HK2.out))⟩
      case measure => simp [intOf]; omega
    · go_wp2
      go_end0
      have e : xs.take k = xs := List.take_of_length_le (by omega)
      rw [e] at HB'
      exact ⟨rfl, HB'.out, HK'.out⟩
end Go.Proofs.YtoahaigfjfeopaaGreatDoor

/- What the printer's comma, hard and soft write. -/
namespace Go.Proofs.YtoahaigfjfeopaaGreatDoor
open Go.RowKit

theorem size_mk (l : List UInt8) : (ByteArray.mk l.toArray).size = l.length := by simp [ByteArray.size]
theorem data_mk (l : List UInt8) : (ByteArray.mk l.toArray).data.toList = l := by simp

set_option maxRecDepth 100000 in
theorem comma_any (b : Nat) (l : List UInt8) (i : Nat) (w : World) (hB : Bld b l w) (_ : i ≤ 140737488355328) (hlen : l.length + (commaP i).length ≤ 140737488355328) :
    Calls Tryz.prog 64 #[.pointer (some ⟨b, 0, none⟩), .int .i64 i] w fun e w' => e = .returned (.tuple #[]) ∧ Bld b (l ++ commaP i) w' ∧ Kep b w w' := by
  by_cases h : 0 < i
  · have e : commaP i = [44] := by simp [commaP, h]
    have hl : l.length + 1 ≤ 140737488355328 := by rw [e] at hlen; simpa using hlen
    have H := Lib.hid e
    have HB := Lib.hid hB
    clear e hlen hB
    go_enter Tryz.func64, Tryz.ntmps64
    go_wp2_with (go_at_call 65; refine (writeByte_any b _ 44 _ HB.out hl).mono ?_; rintro e w2 ⟨rfl, hB2, hk2⟩; have HB2 := Lib.hid hB2; have HK2 := Lib.hid hk2; clear hB2 hk2)
    go_end0
    exact ⟨rfl, by rw [H.out]; exact HB2.out, HK2.out⟩
  · have e : commaP i = [] := by simp [commaP, h]
    go_enter Tryz.func64, Tryz.ntmps64
    go_wp2
    go_end0
    exact ⟨rfl, by rw [e, List.append_nil]; exact hB, Kep.refl _ _⟩

/-- A box behind the printer that holds four cells. -/
structure Box4 (g : Nat) (t : TypeId) (u0 u1 u2 u3 : Value) (W : World) : Prop where
  block : W.heap[g]? = some (.cells #[u0, u1, u2, u3] t (0, 0))
theorem Box4.kep {g : Nat} {t : TypeId} {u0 u1 u2 u3 : Value} {b : Nat} {W W1 : World} (h : Box4 g t u0 u1 u2 u3 W) (hg : g ≠ b) (ht : t ≠ 5) (hk : Kep b W W1) : Box4 g t u0 u1 u2 u3 W1 :=
  ⟨hk.others g _ h.block (by simpa using hg) (fun _ _ e => ht (by injection e))⟩
theorem Box4.below {g : Nat} {t : TypeId} {u0 u1 u2 u3 : Value} {W W1 : World} (h : Box4 g t u0 u1 u2 u3 W) (hk : Below W.heap.size W W1) : Box4 g t u0 u1 u2 u3 W1 := ⟨block_kept hk h.block⟩
theorem Box4.cells {g : Nat} {t : TypeId} {u0 u1 u2 u3 : Value} {W : World} (h : Box4 g t u0 u1 u2 u3 W) :
    W.cell? ⟨g, 0, none⟩ = some u0 ∧ W.cell? ⟨g, 1, none⟩ = some u1 ∧ W.cell? ⟨g, 2, none⟩ = some u2 ∧ W.cell? ⟨g, 3, none⟩ = some u3 :=
  ⟨cell_at h.block (i := 0) rfl, cell_at h.block (i := 1) rfl, cell_at h.block (i := 2) rfl, cell_at h.block (i := 3) rfl⟩
/-- What is read stands while the printer writes: it lies below the printer, or in blocks that are no bytes. -/
def Stays (b : Nat) (w : World) (ok : Nat → Prop) : Prop := ∀ k, ok k → k < b ∨ ∃ c t fr, w.heap[k]? = some (.cells c t fr) ∧ t ≠ 5 ∧ k ≠ b
theorem Stays.kep {b : Nat} {w w1 : World} {ok : Nat → Prop} (h : Stays b w ok) (hk : Kep b w w1) : Stays b w1 ok := fun k ho => by
  rcases h k ho with h | ⟨c, t, fr, h, ht, hkb⟩
  · exact .inl h
  · exact .inr ⟨c, t, fr, hk.others k _ h (by simpa using hkb) (fun c' fz e => ht (by injection e)), ht, hkb⟩
theorem Stays.below {b : Nat} {w w1 : World} {ok : Nat → Prop} (h : Stays b w ok) (hk : Below w.heap.size w w1) : Stays b w1 ok := fun k ho => by
  rcases h k ho with h | ⟨c, t, fr, h, ht, hkb⟩
  · exact .inl h
  · exact .inr ⟨c, t, fr, block_kept hk h, ht, hkb⟩
theorem Stays.sl {α : Type} {d : Kd α} {b : Nat} {w w1 : World} {ok : Nat → Prop} {v : Value} {xs : List α} (hs : 0 < d.sz) (h : Stays b w ok) (hv : Sl d w ok v xs) (hk : Kep b w w1) : Sl d w1 ok v xs :=
  (hv.move hs fun k ho _ => by
    rcases h k ho with h | ⟨c, t, fr, h, ht, hkb⟩
    · exact hk.below.block k h
    · exact (hk.others k _ h (by simpa using hkb) (fun c' fz e => ht (by injection e))).trans h.symm).mono fun _ h => h.1

set_option maxRecDepth 100000 in
set_option maxHeartbeats 1000000 in
theorem hard_plain (b : Nat) (l : List UInt8) (vs vr va : Value) (c : Con) (ok : Nat → Prop) (w : World) (hB : Bld b l w) (hE : Env w) (hb8 : 8 ≤ b) (hS : Stays b w ok) (h1 : Sl (Kd.int .i64) w ok vs c.scope)
    (hq1 : 2 < c.kind) (hq2 : c.kind < 6) (hf : Fits c.scope) (hlen : l.length + (hardP c).length ≤ 140737488355328) :
    Calls Tryz.prog 37 #[.pointer (some ⟨b, 0, none⟩), .agg #[.int .i64 c.kind, vs, vr, va]] w fun e w' => e = .returned (.tuple #[]) ∧ Bld b (l ++ hardP c) w' ∧ Kep b w w' := by
  have hP : hardP c = nth [] wordsT c.kind.toNat ++ numsP c.scope := by
    unfold hardP; rw [if_neg (by omega), if_pos hq1, List.append_nil]
  have hbw : b < w.heap.size := by obtain ⟨_, _, _, h, _⟩ := hB; exact lt_of_block h
  have h1' := h1
  obtain ⟨As, cps, rfl, hs1, hs2, _⟩ := h1
  have HB0 := below_alloc1 w (.cells #[.int .i64 c.kind, .slice As c.scope.length cps, vr, va] 43)
  have hbox0 : Box4 w.heap.size 43 (.int .i64 c.kind) (.slice As c.scope.length cps) vr va (w.alloc (.cells #[.int .i64 c.kind, .slice As c.scope.length cps, vr, va] 43)) := ⟨heap_alloc_new w _⟩
  have hword := (hE.below HB0 hE.size).word c.kind.toNat (by omega)
  have hk0 : 0 ≤ c.kind := by omega
  have hk7 : c.kind < 7 := by omega
  have hkne : (c.kind == 6) = false := by simp; omega
  have hl : l.length + (nth [] wordsT c.kind.toNat).length + (numsP c.scope).length ≤ 140737488355328 := by rw [hP, List.length_append] at hlen; omega
  have HP := Lib.hid hP
  have hdr := Below.drew (Below.refl (w.alloc (.cells #[.int .i64 c.kind, .slice As c.scope.length cps, vr, va] 43)).heap.size (w.alloc (.cells #[.int .i64 c.kind, .slice As c.scope.length cps, vr, va] 43)))
  have HW := Lib.hid (writeString_any b l ⟨(nth [] wordsT c.kind.toNat).toArray⟩ _ ((hB.move HB0).move hdr) (by rw [size_mk]; omega))
  have HS0 := Lib.hid (hS.below HB0)
  have H1 := Lib.hid (h1'.below (by decide) HB0)
  have HE0 := Lib.hid (hE.below HB0 hE.size)
  have HK0 : Hid (Kep b w (w.alloc (.cells #[.int .i64 c.kind, .slice As c.scope.length cps, vr, va] 43))) := Lib.hid ⟨(Below.refl b w).alloc (by omega) _, (Lib.OthersKept.refl _ _ w).alloc _⟩
  have Hf := Lib.hid hf
  have Hbox := Lib.hid hbox0
  have hne : w.heap.size ≠ b := by omega
  have Hne := Lib.hid hne
  clear hP hlen hB hS h1' hE hf HB0 hdr hbox0 hne
  go_enter Tryz.func37, Tryz.ntmps37
  go_wp2
  go_region_with (first
    | (go_at_call 35; refine HW.out.mono ?_; rintro e W2 ⟨rfl, hB2, hk2⟩; (have HB2 := Lib.hid hB2); (have HK2 := Lib.hid (Kep.trans ⟨Below.drew (Below.refl b _), (Lib.OthersKept.refl _ _ _).drew⟩ hk2)); (obtain ⟨c0, c1, c2, c3⟩ := (Hbox.out.kep Hne.out (by decide) HK2.out).cells); clear hB2 hk2))
  go_wp2_with (first
    | (go_at_call 36; refine (numbers_any b _ _ c.scope ok _ HB2.out (HE0.out.below HK2.out.below hb8) hb8 (HS0.out.sl (by decide) H1.out HK2.out) (HS0.out.kep HK2.out) Hf.out (by rw [List.length_append]; omega)).mono ?_; rintro e W3 ⟨rfl, hB3, hk3⟩; (have HB3 := Lib.hid hB3); (have HK3 := Lib.hid (HK2.out.trans hk3)); (obtain ⟨d0, d1, d2, d3⟩ := (Hbox.out.kep Hne.out (by decide) HK3.out).cells); clear hB3 hk3))
  refine bodyPost_ret (results_none rfl _ _ _) rfl ?_
  exact ⟨rfl, by rw [HP.out, ← List.append_assoc]; exact HB3.out, HK0.out.trans HK3.out⟩
end Go.Proofs.YtoahaigfjfeopaaGreatDoor

/- What the printer's hard writes of a table, and of a sum. -/
namespace Go.Proofs.YtoahaigfjfeopaaGreatDoor
open Go.RowKit

set_option maxRecDepth 100000 in
set_option maxHeartbeats 1000000 in
theorem hard_table (b : Nat) (l : List UInt8) (vs vr va : Value) (c : Con) (ok : Nat → Prop) (w : World) (hB : Bld b l w) (hE : Env w) (hb8 : 8 ≤ b) (hS : Stays b w ok) (h1 : Sl (Kd.int .i64) w ok vs c.scope)
    (hq1 : 1 ≤ c.kind) (hq2 : c.kind ≤ 2) (h2 : Sl kRow w ok vr c.rows) (hf : Fits c.scope) (hr : ∀ k, k < c.rows.length → Fits (nth [] c.rows k)) (hrl : c.rows.length ≤ 140737488355328) (hlen : l.length + (hardP c).length ≤ 140737488355328) :
    Calls Tryz.prog 37 #[.pointer (some ⟨b, 0, none⟩), .agg #[.int .i64 c.kind, vs, vr, va]] w fun e w' => e = .returned (.tuple #[]) ∧ Bld b (l ++ hardP c) w' ∧ Kep b w w' := by
  have hP : hardP c = nth [] wordsT c.kind.toNat ++ (numsP c.scope ++ ([58] ++ rowsP 0 c.rows)) := by
    unfold hardP; rw [if_neg (by omega), if_neg (by omega)]
  have hbw : b < w.heap.size := by obtain ⟨_, _, _, h, _⟩ := hB; exact lt_of_block h
  have h1' := h1
  obtain ⟨As, cps, rfl, hs1, hs2, _⟩ := h1
  have h2' := h2
  obtain ⟨Ar, cpr, rfl, hr1, hr2, _⟩ := h2
  have HB0 := below_alloc1 w (.cells #[.int .i64 c.kind, .slice As c.scope.length cps, .slice Ar c.rows.length cpr, va] 43)
  have hbox0 : Box4 w.heap.size 43 (.int .i64 c.kind) (.slice As c.scope.length cps) (.slice Ar c.rows.length cpr) va (w.alloc (.cells #[.int .i64 c.kind, .slice As c.scope.length cps, .slice Ar c.rows.length cpr, va] 43)) := ⟨heap_alloc_new w _⟩
  have hword := (hE.below HB0 hE.size).word c.kind.toNat (by omega)
  have hk0 : 0 ≤ c.kind := by omega
  have hk7 : c.kind < 7 := by omega
  have hkne : (c.kind == 6) = false := by simp; omega
  have hl : l.length + (nth [] wordsT c.kind.toNat).length + (numsP c.scope).length + 1 + (rowsP 0 c.rows).length ≤ 140737488355328 := by rw [hP, List.length_append, List.length_append, List.length_append] at hlen; simp at hlen; omega
  have HP := Lib.hid hP
  have hdr := Below.drew (Below.refl (w.alloc (.cells #[.int .i64 c.kind, .slice As c.scope.length cps, .slice Ar c.rows.length cpr, va] 43)).heap.size (w.alloc (.cells #[.int .i64 c.kind, .slice As c.scope.length cps, .slice Ar c.rows.length cpr, va] 43)))
  have HW := Lib.hid (writeString_any b l ⟨(nth [] wordsT c.kind.toNat).toArray⟩ _ ((hB.move HB0).move hdr) (by rw [size_mk]; omega))
  have HS0 := Lib.hid (hS.below HB0)
  have H1 := Lib.hid (h1'.below (by decide) HB0)
  have H2 := Lib.hid (h2'.below (by decide) HB0)
  have Hr := Lib.hid hr
  have HE0 := Lib.hid (hE.below HB0 hE.size)
  have HK0 : Hid (Kep b w (w.alloc (.cells #[.int .i64 c.kind, .slice As c.scope.length cps, .slice Ar c.rows.length cpr, va] 43))) := Lib.hid ⟨(Below.refl b w).alloc (by omega) _, (Lib.OthersKept.refl _ _ w).alloc _⟩
  have Hf := Lib.hid hf
  have Hbox := Lib.hid hbox0
  have hne : w.heap.size ≠ b := by omega
  have Hne := Lib.hid hne
  clear hP hlen hB hS h1' h2' hr hE hf HB0 hdr hbox0 hne
  go_enter Tryz.func37, Tryz.ntmps37
  go_wp2
  go_region_with (first
    | (go_at_call 35; refine HW.out.mono ?_; rintro e W2 ⟨rfl, hB2, hk2⟩; (have HB2 := Lib.hid hB2); (have HK2 := Lib.hid (Kep.trans ⟨Below.drew (Below.refl b _), (Lib.OthersKept.refl _ _ _).drew⟩ hk2)); (obtain ⟨c0, c1, c2, c3⟩ := (Hbox.out.kep Hne.out (by decide) HK2.out).cells); clear hB2 hk2))
  go_wp2_with (first
    | (go_at_call 36; refine (numbers_any b _ _ c.scope ok _ HB2.out (HE0.out.below HK2.out.below hb8) hb8 (HS0.out.sl (by decide) H1.out HK2.out) (HS0.out.kep HK2.out) Hf.out (by rw [List.length_append]; omega)).mono ?_; rintro e W3 ⟨rfl, hB3, hk3⟩; (have HB3 := Lib.hid hB3); (have HK3 := Lib.hid (HK2.out.trans hk3)); (obtain ⟨d0, d1, d2, d3⟩ := (Hbox.out.kep Hne.out (by decide) HK3.out).cells); clear hB3 hk3)
    | (go_at_call 65; refine (writeByte_any b _ 58 _ HB3.out (by rw [List.length_append, List.length_append]; omega)).mono ?_; rintro e W4 ⟨rfl, hB4, hk4⟩; (have HB4 := Lib.hid hB4); (have HK4 := Lib.hid (HK3.out.trans hk4)); (obtain ⟨e0, e1, e2, e3⟩ := (Hbox.out.kep Hne.out (by decide) HK4.out).cells); clear hB4 hk4))
  clear HW c0 c1 c2 c3 d0 d1 d2 d3
  go_loopw [79] (fun i wr => ∃ k : Nat, i = .int .i64 k ∧ k ≤ c.rows.length ∧ Hid (Bld b (l ++ (nth [] wordsT c.kind.toNat) ++ numsP c.scope ++ [58] ++ rowsP 0 (c.rows.take k)) wr) ∧ Hid (Kep b (w.alloc (.cells #[.int .i64 c.kind, .slice As c.scope.length cps, .slice Ar c.rows.length cpr, va] 43)) wr)) (fun i _ => c.rows.length - (intOf i).toNat)
  case atStart => exact ⟨0, rfl, by omega, Lib.hid (by simpa [rowsP] using HB4.out), HK4⟩
  case round =>
    obtain ⟨k, rfl, hk, HBk, HKk⟩ := hrel
    clear HB2 HB3 HB4 HK2 HK3 HK4 e0 e1 e2 e3
    by_cases hlt : k < c.rows.length
    · obtain ⟨b1, o1, vt, rfl, g1, ht⟩ := (Sl.elems (HS0.out.sl (by decide) H2.out HKk.out)).row hlt
      have HT := Lib.hid ht
      obtain ⟨At, ct, rfl, ht1, ht2, _⟩ := ht
      have hst := rowsP_step c.rows k hlt
      have hle := rowsP_take_le c.rows (k + 1)
      have hb2 : (rowsP 0 (c.rows.take k)).length + (commaP k).length + (numsP (nth [] c.rows k)).length ≤ (rowsP 0 c.rows).length := by
        rw [hst, List.length_append, List.length_append] at hle; omega
      have Hst := Lib.hid hst
      clear hst hle
      go_wp2_with (first
        | (go_at_call 64; refine (comma_any b _ k _ HBk.out (by omega) (by simp only [List.length_append, List.length_cons, List.length_nil]; omega)).mono ?_; rintro e W5 ⟨rfl, hB5, hk5⟩; (have HB5 := Lib.hid hB5); (have HK5 := Lib.hid (HKk.out.trans hk5)); (have HKt := Lib.hid hk5); clear hB5 hk5)
        | (go_at_call 36; refine (numbers_any b _ _ (nth [] c.rows k) ok _ HB5.out (HE0.out.below HK5.out.below hb8) hb8 ((HS0.out.kep HKk.out).sl (by decide) HT.out HKt.out) (HS0.out.kep HK5.out) (Hr.out k hlt) (by simp only [List.length_append, List.length_cons, List.length_nil]; omega)).mono ?_; rintro e W6 ⟨rfl, hB6, hk6⟩; (have HB6 := Lib.hid hB6); (have HK6 := Lib.hid (HK5.out.trans hk6)); clear hB6 hk6))
      go_roundw
      case rel => exact ⟨k + 1, by go_num, by omega, Lib.hid (by rw [Hst.out]; simpa only [List.append_assoc] using HB6.out), HK6⟩
      case measure => simp [intOf]; omega
    · go_wp2
      go_end0
      have e : c.rows.take k = c.rows := List.take_of_length_le (by omega)
      rw [e] at HBk
      exact ⟨rfl, by rw [HP.out]; simpa only [List.append_assoc] using HBk.out, HK0.out.trans HKk.out⟩

end Go.Proofs.YtoahaigfjfeopaaGreatDoor

/- What the printer's hard writes of a sum. -/
namespace Go.Proofs.YtoahaigfjfeopaaGreatDoor
open Go.RowKit

theorem lit_two (W : World) (a v : Int) : Sl (Kd.int .i64) (W.alloc (.cells #[.int .i64 a, .int .i64 v] 3)) (· = W.heap.size) (.slice (some ⟨W.heap.size, 0, none⟩) 2 2) [a, v] := by
  refine ⟨_, _, rfl, Nat.le_refl _, by simp, fun j x hx => ⟨W.heap.size, 0, [.int .i64 x], rfl, rfl, rfl, fun i u hu => ?_⟩⟩
  have hc : (W.alloc (.cells #[.int .i64 a, .int .i64 v] 3)).heap[W.heap.size]? = some (.cells #[.int .i64 a, .int .i64 v] 3 (0, 0)) := heap_alloc_new W _
  match i, hu with
  | 0, hu =>
    simp at hu; subst hu
    match j, hx with
    | 0, hx => simp at hx; subst hx; exact cell_at hc (i := 0) rfl
    | 1, hx => simp at hx; subst hx; exact cell_at hc (i := 1) rfl
theorem lit_one (W : World) (a : Int) : Sl (Kd.int .i64) (W.alloc (.cells #[.int .i64 a] 3)) (· = W.heap.size) (.slice (some ⟨W.heap.size, 0, none⟩) 1 1) [a] := by
  refine ⟨_, _, rfl, Nat.le_refl _, by simp, fun j x hx => ⟨W.heap.size, 0, [.int .i64 x], rfl, rfl, rfl, fun i u hu => ?_⟩⟩
  have hc : (W.alloc (.cells #[.int .i64 a] 3)).heap[W.heap.size]? = some (.cells #[.int .i64 a] 3 (0, 0)) := heap_alloc_new W _
  match i, hu with
  | 0, hu =>
    simp at hu; subst hu
    match j, hx with
    | 0, hx => simp at hx; subst hx; exact cell_at hc (i := 0) rfl
theorem stays_lit {b : Nat} (W : World) (cs : Array Value) (hb : b < W.heap.size) : Stays b (W.alloc (.cells cs 3)) (· = W.heap.size) := by
  rintro k rfl
  exact .inr ⟨cs, 3, (0, 0), heap_alloc_new W _, by decide, by omega⟩
theorem kep_alloc {b : Nat} (W : World) (o : Obj) (hb : b ≤ W.heap.size) : Kep b W (W.alloc o) := ⟨(Below.refl b W).alloc hb o, (Lib.OthersKept.refl _ _ W).alloc o⟩
theorem Bld.lt {b : Nat} {l : List UInt8} {w : World} (h : Bld b l w) : b < w.heap.size := by obtain ⟨_, _, _, h, _⟩ := h; exact lt_of_block h

set_option maxRecDepth 100000 in
set_option maxHeartbeats 1000000 in
theorem hard_linear (b : Nat) (l : List UInt8) (vs vr va : Value) (c : Con) (ok : Nat → Prop) (w : World) (hB : Bld b l w) (hE : Env w) (hb8 : 8 ≤ b) (hS : Stays b w ok) (h1 : Sl (Kd.int .i64) w ok vs c.scope)
    (hq : c.kind = 6) (h3 : Sl (Kd.int .i64) w ok va c.args) (hla : c.args.length = c.scope.length + 2) (hh0 : 0 ≤ nth 0 c.args c.scope.length) (hh2 : nth 0 c.args c.scope.length ≤ 2) (hf : Fits c.scope) (hr : Fits c.args) (hlen : l.length + (hardP c).length ≤ 140737488355328) :
    Calls Tryz.prog 37 #[.pointer (some ⟨b, 0, none⟩), .agg #[.int .i64 c.kind, vs, vr, va]] w fun e w' => e = .returned (.tuple #[]) ∧ Bld b (l ++ hardP c) w' ∧ Kep b w w' := by
  have hP : hardP c = nth [] wordsT 6 ++ (linP 0 c.args c.scope ++ ([58, 32] ++ nth [] howsT (nth 0 c.args c.scope.length).toNat) ++ numsP [nth 0 c.args (c.scope.length + 1)]) := by
    unfold hardP; rw [if_pos hq, hq]; rfl
  have hbw : b < w.heap.size := by obtain ⟨_, _, _, h, _⟩ := hB; exact lt_of_block h
  have h1' := h1
  obtain ⟨As, cps, rfl, hs1, hs2, _⟩ := h1
  have h3' := h3
  obtain ⟨Aa, cpa, rfl, ha1, ha2, _⟩ := h3
  rw [hq]
  have HB0 := below_alloc1 w (.cells #[.int .i64 6, .slice As c.scope.length cps, vr, .slice Aa c.args.length cpa] 43)
  have hbox0 : Box4 w.heap.size 43 (.int .i64 6) (.slice As c.scope.length cps) vr (.slice Aa c.args.length cpa) (w.alloc (.cells #[.int .i64 6, .slice As c.scope.length cps, vr, .slice Aa c.args.length cpa] 43)) := ⟨heap_alloc_new w _⟩
  have hword := (hE.below HB0 hE.size).word 6 (by omega)
  have hl : l.length + (nth [] wordsT 6).length + (linP 0 c.args c.scope).length + 2 + (nth [] howsT (nth 0 c.args c.scope.length).toNat).length + (numsP [nth 0 c.args (c.scope.length + 1)]).length ≤ 140737488355328 := by rw [hP, List.length_append, List.length_append, List.length_append, List.length_append] at hlen; simp only [List.length_cons, List.length_nil] at hlen; omega
  have HP := Lib.hid hP
  have hdr := Below.drew (Below.refl (w.alloc (.cells #[.int .i64 6, .slice As c.scope.length cps, vr, .slice Aa c.args.length cpa] 43)).heap.size (w.alloc (.cells #[.int .i64 6, .slice As c.scope.length cps, vr, .slice Aa c.args.length cpa] 43)))
  have HW := Lib.hid (writeString_any b l ⟨(nth [] wordsT 6).toArray⟩ _ ((hB.move HB0).move hdr) (by rw [size_mk]; omega))
  have HS0 := Lib.hid (hS.below HB0)
  have H1 := Lib.hid (h1'.below (by decide) HB0)
  have H3 := Lib.hid (h3'.below (by decide) HB0)
  have Hr := Lib.hid hr
  have hla1 : c.scope.length + 1 < c.args.length := by omega
  have HE0 := Lib.hid (hE.below HB0 hE.size)
  have HK0 : Hid (Kep b w (w.alloc (.cells #[.int .i64 6, .slice As c.scope.length cps, vr, .slice Aa c.args.length cpa] 43))) := Lib.hid ⟨(Below.refl b w).alloc (by omega) _, (Lib.OthersKept.refl _ _ w).alloc _⟩
  have Hf := Lib.hid hf
  have Hbox := Lib.hid hbox0
  have hne : w.heap.size ≠ b := by omega
  have Hne := Lib.hid hne
  clear hP hlen hB hS h1' h3' hr hla hq hE hf HB0 hdr hbox0 hne
  go_enter Tryz.func37, Tryz.ntmps37
  go_wp2
  go_region_with (first
    | (go_at_call 35; refine HW.out.mono ?_; rintro e W2 ⟨rfl, hB2, hk2⟩; (have HB2 := Lib.hid hB2); (have HK2 := Lib.hid (Kep.trans ⟨Below.drew (Below.refl b _), (Lib.OthersKept.refl _ _ _).drew⟩ hk2)); (obtain ⟨c0, c1, c2, c3⟩ := (Hbox.out.kep Hne.out (by decide) HK2.out).cells); clear hB2 hk2))
  go_wp2
  clear HW c0 c1 c2 c3
  go_loopw [26] (fun i wr => ∃ k : Nat, i = .int .i64 k ∧ k ≤ c.scope.length ∧ Hid (Bld b (l ++ nth [] wordsT 6 ++ linP 0 (c.args.take k) (c.scope.take k)) wr) ∧ Hid (Kep b (w.alloc (.cells #[.int .i64 6, .slice As c.scope.length cps, vr, .slice Aa c.args.length cpa] 43)) wr)) (fun i _ => c.scope.length - (intOf i).toNat)
  case atStart => exact ⟨0, rfl, by omega, Lib.hid (by simpa [linP] using HB2.out), HK2⟩
  case round =>
    obtain ⟨k, rfl, hk, HBk, HKk⟩ := hrel
    clear HB2 HK2
    obtain ⟨e0, e1, e2, e3⟩ := (Hbox.out.kep Hne.out (by decide) HKk.out).cells
    have hwr := Lib.hid HBk.out.lt
    by_cases hlt : k < c.scope.length
    · obtain ⟨b1, o1, rfl, g1⟩ := (Sl.elems (HS0.out.sl (by decide) H1.out HKk.out)).num hlt
      have hst := linP_step c.args c.scope k hlt (by omega)
      have hle := linP_take_le c.args c.scope (k + 1) (by omega) (by omega)
      have hb2 : (linP 0 (c.args.take k) (c.scope.take k)).length + (commaP k).length + (numsP [nth 0 c.args k, nth 0 c.scope k]).length ≤ (linP 0 c.args c.scope).length := by
        rw [hst, List.length_append, List.length_append] at hle; omega
      have Hst := Lib.hid hst
      have hft := Lib.hid (fits_two (Hr.out k (by omega)) (Hf.out k hlt))
      clear hst hle
      go_wp2_with (first
        | (go_at_call 64; refine (comma_any b _ k _ HBk.out (by omega) (by simp only [List.length_append]; omega)).mono ?_; rintro e W5 ⟨rfl, hB5, hk5⟩; (have HB5 := Lib.hid hB5); (have HK5 := Lib.hid (HKk.out.trans hk5)); (have hlt5 := Lib.hid hB5.lt); (obtain ⟨f0, f1, f2, f3⟩ := (Hbox.out.kep Hne.out (by decide) HK5.out).cells); (obtain ⟨b5, o5, he5, g5⟩ := (Sl.elems (HS0.out.sl (by decide) H3.out HK5.out)).num (j := k) (by omega)); subst he5; clear hB5 hk5 e0 e1 e2 e3)
        | (go_at_call 36; refine (numbers_any b _ _ [nth 0 c.args k, nth 0 c.scope k] (· = W5.heap.size) _ (HB5.out.move (below_alloc1 _ _)) ((HE0.out.below HK5.out.below hb8).below (below_alloc1 _ _) (by have := (HE0.out.below HK5.out.below hb8).size; exact this)) hb8 (lit_two W5 _ _) (stays_lit W5 _ hlt5.out) hft.out (by simp only [List.length_append]; omega)).mono ?_; rintro e W6 ⟨rfl, hB6, hk6⟩; (have HB6 := Lib.hid hB6); (have HK6 := Lib.hid (HK5.out.trans ((kep_alloc W5 _ (Nat.le_of_lt hlt5.out)).trans hk6))); clear hB6 hk6))
      go_roundw
      case rel => exact ⟨k + 1, by go_num, by omega, Lib.hid (by rw [Hst.out]; simpa only [List.append_assoc] using HB6.out), HK6⟩
      case measure => simp [intOf]; omega
    · have ek : k = c.scope.length := by omega
      have e' : linP 0 (c.args.take k) (c.scope.take k) = linP 0 c.args c.scope := by rw [ek, List.take_length, linP_all]
      rw [e'] at HBk
      clear ek e'
      obtain ⟨ba, oa, hea, ga⟩ := (Sl.elems (HS0.out.sl (by decide) H3.out HKk.out)).num (j := c.scope.length) (by omega)
      subst hea
      have hE1 := HE0.out.below HKk.out.below hb8
      have hhow := hE1.how (nth 0 c.args c.scope.length).toNat (by omega)
      have hq3 : nth 0 c.args c.scope.length < 3 := by omega
      have hlc : c.scope.length < c.args.length := by omega
      have hsh : (nth [] howsT (nth 0 c.args c.scope.length).toNat).length ≤ 2 := by
        have : ∀ k : Nat, k < 3 → (nth [] howsT k).length ≤ 2 := by decide
        exact this _ (by omega)
      have hdt : Hid ((ByteArray.mk #[58, 32] ++ ByteArray.mk (nth [] howsT (nth 0 c.args c.scope.length).toNat).toArray).data.toList = [58, 32] ++ nth [] howsT (nth 0 c.args c.scope.length).toNat) := Lib.hid (by simp)
      have hsz : Hid ((ByteArray.mk #[58, 32] ++ ByteArray.mk (nth [] howsT (nth 0 c.args c.scope.length).toNat).toArray).size = 2 + (nth [] howsT (nth 0 c.args c.scope.length).toNat).length) := Lib.hid (by rw [ByteArray.size_append, size_mk]; rfl)
      have HE1 := Lib.hid hE1
      have HWk := Lib.hid (writeString_any b _ (ByteArray.mk #[58, 32] ++ ByteArray.mk (nth [] howsT (nth 0 c.args c.scope.length).toNat).toArray) _ (HBk.out.move (Below.drew (Below.refl wr.heap.size wr))) (by rw [hsz.out]; simp only [List.length_append]; omega))
      clear hE1
      go_wp2
      go_region_with (first
        | (go_at_call 35; refine HWk.out.mono ?_; rintro e W7 ⟨rfl, hB7, hk7⟩; (rw [hdt.out] at hB7); (have HB7 := Lib.hid hB7); (have HK7 := Lib.hid (HKk.out.trans (Kep.trans ⟨Below.drew (Below.refl b _), (Lib.OthersKept.refl _ _ _).drew⟩ hk7))); (obtain ⟨f0, f1, f2, f3⟩ := (Hbox.out.kep Hne.out (by decide) HK7.out).cells); (have hlt7 := Lib.hid hB7.lt); (obtain ⟨b8, o8, he8, g8⟩ := (Sl.elems (HS0.out.sl (by decide) H3.out HK7.out)).num (j := c.scope.length + 1) (by omega)); (injection he8 with he8); (injection he8 with he81 he82); subst he81 he82; clear hB7 hk7))
      have hs0 : IntKind.i64.wrap ((c.scope.length:Int) + 1) = (c.scope.length:Int) + 1 := IntWalk.i64_in _ (by omega)
      have hs1 : ((c.scope.length:Int) + 1).toNat = c.scope.length + 1 := by omega
      have hft := Lib.hid (fits_one (Hr.out (c.scope.length + 1) (by omega)))
      clear HWk HBk HKk ga hhow e0 e1 e2 e3
      go_wp2_with (first
        | (go_at_call 36; refine (numbers_any b _ _ [nth 0 c.args (c.scope.length + 1)] (· = W7.heap.size) _ (HB7.out.move (below_alloc1 _ _)) ((HE0.out.below HK7.out.below hb8).below (below_alloc1 _ _) (by have := (HE0.out.below HK7.out.below hb8).size; exact this)) hb8 (lit_one W7 _) (stays_lit W7 _ hlt7.out) hft.out (by simp only [List.length_append, List.length_cons, List.length_nil]; omega)).mono ?_; rintro e W8 ⟨rfl, hB8, hk8⟩; (have HB8 := Lib.hid hB8); (have HK8 := Lib.hid (HK7.out.trans ((kep_alloc W7 _ (Nat.le_of_lt hlt7.out)).trans hk8))); clear hB8 hk8))
      refine bodyPost_ret (results_none rfl _ _ _) rfl ?_
      exact ⟨rfl, by rw [HP.out]; simpa only [List.append_assoc] using HB8.out, HK0.out.trans HK8.out⟩

end Go.Proofs.YtoahaigfjfeopaaGreatDoor

/- What the printer's soft writes. -/
namespace Go.Proofs.YtoahaigfjfeopaaGreatDoor
open Go.RowKit

set_option maxRecDepth 100000 in
set_option maxHeartbeats 1000000 in
theorem softw_any (b : Nat) (l : List UInt8) (vs vr vc : Value) (s : Sft) (ok : Nat → Prop) (w : World) (hB : Bld b l w) (hE : Env w) (hb8 : 8 ≤ b) (hS : Stays b w ok) (h1 : Sl (Kd.int .i64) w ok vs s.scope) (h2 : Sl kRow w ok vr s.rows) (h3 : Sl (Kd.int .i64) w ok vc s.costs)
    (hlc : s.rows.length = s.costs.length) (hf : Fits s.scope) (hr : ∀ k, k < s.rows.length → Fits (nth [] s.rows k)) (hcf : Fits s.costs) (hd : Fit s.dflt) (hlen : l.length + (softP s).length ≤ 140737488355328) :
    Calls Tryz.prog 38 #[.pointer (some ⟨b, 0, none⟩), .agg #[vs, vr, vc, .int .i64 s.dflt]] w fun e w' => e = .returned (.tuple #[]) ∧ Bld b (l ++ softP s) w' ∧ Kep b w w' := by
  have hP : softP s = softT ++ (numsP s.scope ++ ([58] ++ (numsP [s.dflt] ++ costsP s.rows s.costs))) := by unfold softP; simp only [List.append_assoc]
  have hbw : b < w.heap.size := hB.lt
  have h1' := h1
  obtain ⟨As, cps, rfl, hs1, hs2, _⟩ := h1
  have h2' := h2
  obtain ⟨Ar, cpr, rfl, hr1, hr2, _⟩ := h2
  have h3' := h3
  obtain ⟨Ac, cpc, rfl, hc1, hc2, _⟩ := h3
  have HB0 := below_alloc1 w (.cells #[.slice As s.scope.length cps, .slice Ar s.rows.length cpr, .slice Ac s.costs.length cpc, .int .i64 s.dflt] 47)
  have hbox0 : Box4 w.heap.size 47 (.slice As s.scope.length cps) (.slice Ar s.rows.length cpr) (.slice Ac s.costs.length cpc) (.int .i64 s.dflt) (w.alloc (.cells #[.slice As s.scope.length cps, .slice Ar s.rows.length cpr, .slice Ac s.costs.length cpc, .int .i64 s.dflt] 47)) := ⟨heap_alloc_new w _⟩
  have hl : l.length + 4 + (numsP s.scope).length + 1 + (numsP [s.dflt]).length + (costsP s.rows s.costs).length ≤ 140737488355328 := by
    rw [hP, List.length_append, List.length_append, List.length_append, List.length_append] at hlen
    simp only [softT, List.length_cons, List.length_nil] at hlen; omega
  have hsl : softT.length = 4 := rfl
  have HP := Lib.hid hP
  have HW := Lib.hid (writeString_any b l ⟨softT.toArray⟩ _ (hB.move HB0) (by rw [size_mk]; omega))
  have HS0 := Lib.hid (hS.below HB0)
  have H1 := Lib.hid (h1'.below (by decide) HB0)
  have H2 := Lib.hid (h2'.below (by decide) HB0)
  have H3 := Lib.hid (h3'.below (by decide) HB0)
  have HE0 := Lib.hid (hE.below HB0 hE.size)
  have HK0 := Lib.hid (kep_alloc (b := b) w (.cells #[.slice As s.scope.length cps, .slice Ar s.rows.length cpr, .slice Ac s.costs.length cpc, .int .i64 s.dflt] 47) (by omega))
  have Hf := Lib.hid hf
  have Hr := Lib.hid hr
  have Hcf := Lib.hid hcf
  have Hd := Lib.hid (fits_one hd)
  have Hlc := Lib.hid hlc
  have hlc1 : s.rows.length ≤ s.costs.length := by omega
  have Hsl := Lib.hid hsl
  have Hbox := Lib.hid hbox0
  have hne : w.heap.size ≠ b := by omega
  have Hne := Lib.hid hne
  clear hP hlen hB hS h1' h2' h3' hE hf hr hcf hd hlc hsl HB0 hbox0 hne
  go_enter Tryz.func38, Tryz.ntmps38
  go_wp2_with (first
    | (go_at_call 35; refine HW.out.mono ?_; rintro e W2 ⟨rfl, hB2, hk2⟩; (have HB2 := Lib.hid hB2); (have HK2 := Lib.hid hk2); (obtain ⟨c0, c1, c2, c3⟩ := (Hbox.out.kep Hne.out (by decide) HK2.out).cells); clear hB2 hk2))
  refine (numbers_any b _ _ s.scope ok _ HB2.out (HE0.out.below HK2.out.below hb8) hb8 (HS0.out.sl (by decide) H1.out HK2.out) (HS0.out.kep HK2.out) Hf.out (by simp only [List.length_append, Hsl.out]; omega)).mono ?_
  rintro e W3 ⟨rfl, hB3, hk3⟩
  have HB3 := Lib.hid hB3
  have HK3 := Lib.hid (HK2.out.trans hk3)
  obtain ⟨d0, d1, d2, d3⟩ := (Hbox.out.kep Hne.out (by decide) HK3.out).cells
  clear hB3 hk3 HB2 HK2 c0 c1 c2 c3 HW
  go_wp2_with fail
  refine (writeByte_any b _ 58 _ HB3.out (by simp only [List.length_append, Hsl.out]; omega)).mono ?_
  rintro e W4 ⟨rfl, hB4, hk4⟩
  have HB4 := Lib.hid hB4
  have HK4 := Lib.hid (HK3.out.trans hk4)
  have hlt4 := Lib.hid hB4.lt
  obtain ⟨c0, c1, c2, c3⟩ := (Hbox.out.kep Hne.out (by decide) HK4.out).cells
  clear hB4 hk4 HB3 HK3 d0 d1 d2 d3
  go_wp2_with fail
  refine (numbers_any b _ _ [s.dflt] (· = W4.heap.size) _ (HB4.out.move (below_alloc1 _ _)) ((HE0.out.below HK4.out.below hb8).below (below_alloc1 _ _) (HE0.out.below HK4.out.below hb8).size) hb8 (lit_one W4 _) (stays_lit W4 _ hlt4.out) Hd.out (by simp only [List.length_append, List.length_cons, List.length_nil, Hsl.out]; omega)).mono ?_
  rintro e W5 ⟨rfl, hB5, hk5⟩
  have HB5 := Lib.hid hB5
  have HK5 := Lib.hid (HK4.out.trans ((kep_alloc W4 _ (Nat.le_of_lt hlt4.out)).trans hk5))
  obtain ⟨d0, d1, d2, d3⟩ := (Hbox.out.kep Hne.out (by decide) HK5.out).cells
  clear hB5 hk5 HB4 HK4 c0 c1 c2 c3
  go_wp2
  clear d0 d1 d2 d3
  go_loopw [26] (fun i wr => ∃ k : Nat, i = .int .i64 k ∧ k ≤ s.rows.length ∧ Hid (Bld b (l ++ softT ++ numsP s.scope ++ [58] ++ numsP [s.dflt] ++ costsP (s.rows.take k) (s.costs.take k)) wr) ∧ Hid (Kep b (w.alloc (.cells #[.slice As s.scope.length cps, .slice Ar s.rows.length cpr, .slice Ac s.costs.length cpc, .int .i64 s.dflt] 47)) wr)) (fun i _ => s.rows.length - (intOf i).toNat)
  case atStart => exact ⟨0, rfl, by omega, Lib.hid (by simpa [costsP] using HB5.out), HK5⟩
  case round =>
    obtain ⟨k, rfl, hk, HBk, HKk⟩ := hrel
    clear HB5 HK5
    by_cases hlt : k < s.rows.length
    · obtain ⟨b1, o1, vt, rfl, g1, ht⟩ := (Sl.elems (HS0.out.sl (by decide) H2.out HKk.out)).row hlt
      have HT := Lib.hid ht
      obtain ⟨At, ct, rfl, ht1, ht2, _⟩ := ht
      have hst := costsP_step s.rows s.costs k hlt Hlc.out
      have hle := costsP_take_le s.rows s.costs (k + 1) Hlc.out
      have hb2 : (costsP (s.rows.take k) (s.costs.take k)).length + 1 + (numsP (nth [] s.rows k)).length + (numsP [nth 0 s.costs k]).length ≤ (costsP s.rows s.costs).length := by
        rw [hst, List.length_append, List.length_append, List.length_append] at hle; simp only [List.length_cons, List.length_nil] at hle; omega
      have Hst := Lib.hid hst
      have hft := Lib.hid (fits_one (Hcf.out k (by omega)))
      clear hst hle
      go_wp2_with fail
      refine (writeByte_any b _ 44 _ HBk.out (by simp only [List.length_append, List.length_cons, List.length_nil, Hsl.out]; omega)).mono ?_
      rintro e W6 ⟨rfl, hB6, hk6⟩
      have HB6 := Lib.hid hB6
      have HK6 := Lib.hid (HKk.out.trans hk6)
      have HKt := Lib.hid hk6
      clear hB6 hk6
      go_wp2_with fail
      refine (numbers_any b _ _ (nth [] s.rows k) ok _ HB6.out (HE0.out.below HK6.out.below hb8) hb8 ((HS0.out.kep HKk.out).sl (by decide) HT.out HKt.out) (HS0.out.kep HK6.out) (Hr.out k hlt) (by simp only [List.length_append, List.length_cons, List.length_nil, Hsl.out]; omega)).mono ?_
      rintro e W7 ⟨rfl, hB7, hk7⟩
      have HB7 := Lib.hid hB7
      have HK7 := Lib.hid (HK6.out.trans hk7)
      have hlt7 := Lib.hid hB7.lt
      obtain ⟨d0, d1, d2, d3⟩ := (Hbox.out.kep Hne.out (by decide) HK7.out).cells
      obtain ⟨b8, o8, he8, g8⟩ := (Sl.elems (HS0.out.sl (by decide) H3.out HK7.out)).num (j := k) (by omega)
      subst he8
      clear hB7 hk7 HB6 HK6 HT HKt
      go_wp2_with fail
      refine (numbers_any b _ _ [nth 0 s.costs k] (· = W7.heap.size) _ (HB7.out.move (below_alloc1 _ _)) ((HE0.out.below HK7.out.below hb8).below (below_alloc1 _ _) (HE0.out.below HK7.out.below hb8).size) hb8 (lit_one W7 _) (stays_lit W7 _ hlt7.out) hft.out (by simp only [List.length_append, List.length_cons, List.length_nil, Hsl.out]; omega)).mono ?_
      rintro e W8 ⟨rfl, hB8, hk8⟩
      have HB8 := Lib.hid hB8
      have HK8 := Lib.hid (HK7.out.trans ((kep_alloc W7 _ (Nat.le_of_lt hlt7.out)).trans hk8))
      clear hB8 hk8 d0 d1 d2 d3 g8
      go_wp2
      go_roundw
      case rel => exact ⟨k + 1, by go_num, by omega, Lib.hid (by rw [Hst.out]; simpa only [List.append_assoc] using HB8.out), HK8⟩
      case measure => simp [intOf]; omega
    · go_wp2
      go_end0
      have e : s.rows.take k = s.rows := List.take_of_length_le (by omega)
      have e' : s.costs.take k = s.costs := List.take_of_length_le (by have := Hlc.out; omega)
      rw [e, e'] at HBk
      exact ⟨rfl, by rw [HP.out]; simpa only [List.append_assoc] using HBk.out, HK0.out.trans HKk.out⟩
end Go.Proofs.YtoahaigfjfeopaaGreatDoor

/- Plain laws: the numbers of a right instance fit. -/
namespace Go.Proofs.YtoahaigfjfeopaaGreatDoor

theorem rising_step {l : List Int} (hr : risingB l = true) : ∀ k, k + 1 < l.length → nth 0 l k < nth 0 l (k + 1) := by
  intro k hk
  have : risingB (l.drop k) = true := by
    induction k with
    | zero => exact hr
    | succ k ih =>
      have := ih (by omega)
      rw [risingB_drop l k (by omega)] at this
      simp only [Bool.and_eq_true] at this
      exact this.2
  rw [risingB_drop l k hk] at this
  simp only [Bool.and_eq_true, decide_eq_true_eq] at this
  exact this.1
theorem rising_mono {l : List Int} (hr : risingB l = true) : ∀ (j k : Nat), j + k < l.length → nth 0 l k ≤ nth 0 l (j + k) := by
  intro j
  induction j with
  | zero => intro k _; simp
  | succ j ih =>
    intro k hk
    have a := ih k (by omega)
    have b := rising_step hr (j + k) (by omega)
    rw [show j + 1 + k = j + k + 1 from by omega]
    omega
theorem rising_between {l : List Int} (hr : risingB l = true) {k : Nat} (hk : k < l.length) : nth 0 l 0 ≤ nth 0 l k ∧ nth 0 l k ≤ nth 0 l (l.length - 1) := by
  have a := rising_mono hr k 0 (by omega)
  have b := rising_mono hr (l.length - 1 - k) k (by omega)
  rw [show l.length - 1 - k + k = l.length - 1 from by omega] at b
  exact ⟨a, b⟩
theorem small_bounds {n m : Int} (h : smallB n m = true) : -m ≤ n ∧ n ≤ m := by
  simpa [smallB] using h
def Fit6 (n : Int) : Prop := -1000000 ≤ n ∧ n ≤ 1000000
theorem Fit6.fit {n : Int} (h : Fit6 n) : Fit n := ⟨by have := h.1; omega, by have := h.2; omega⟩
theorem domainB_fits {d : List Int} (h : domainB d = true) : ∀ k, k < d.length → Fit6 (nth 0 d k) := by
  simp only [domainB, Bool.and_eq_true, decide_eq_true_eq] at h
  obtain ⟨⟨⟨⟨_, _⟩, hr⟩, h1⟩, h2⟩ := h
  intro k hk
  have hb := rising_between hr hk
  have a := small_bounds h1
  have b := small_bounds h2
  exact ⟨by omega, by omega⟩
theorem mem_nth {α : Type} (z : α) {l : List α} {x : α} (h : x ∈ l) : ∃ k, k < l.length ∧ nth z l k = x := by
  obtain ⟨k, hk, rfl⟩ := List.getElem_of_mem h
  exact ⟨k, hk, by simp [nth, List.getD_eq_getElem?_getD, List.getElem?_eq_getElem hk]⟩
theorem nth_mem {α : Type} (z : α) {l : List α} {k : Nat} (h : k < l.length) : nth z l k ∈ l := by
  simp [nth, List.getD_eq_getElem?_getD, List.getElem?_eq_getElem h]
theorem all_nth {α : Type} (z : α) {l : List α} {p : α → Bool} (h : l.all p = true) : ∀ k, k < l.length → p (nth z l k) = true :=
  fun _ hk => List.all_eq_true.1 h _ (nth_mem z hk)
theorem scopeB_range {n : Nat} {l : List Int} (h : scopeB n l = true) : ∀ k, k < l.length → 0 ≤ nth 0 l k ∧ nth 0 l k < n := by
  simp only [scopeB, Bool.and_eq_true, decide_eq_true_eq] at h
  obtain ⟨⟨⟨⟨h0, _⟩, hr⟩, h1⟩, h2⟩ := h
  intro k hk
  have hb := rising_between hr hk
  exact ⟨by omega, by omega⟩
theorem inDoms_fits {doms : List (List Int)} (hd : ∀ i, i < doms.length → ∀ k, k < (nth [] doms i).length → Fit6 (nth 0 (nth [] doms i) k)) :
    ∀ (s t : List Int), t.length = s.length → (∀ k, k < s.length → 0 ≤ nth 0 s k ∧ nth 0 s k < doms.length) → inDoms doms s t = true → ∀ k, k < t.length → Fit6 (nth 0 t k)
  | [], [], _, _, _, k, hk => by simp at hk
  | a :: s, b :: t, hl, hs, h, k, hk => by
    simp only [inDoms, Bool.and_eq_true, decide_eq_true_eq] at h
    cases k with
    | zero =>
      have h0 := hs 0 (by simp)
      have ha : nth 0 (a :: s) 0 = a := rfl
      rw [ha] at h0
      obtain ⟨q, hq, he⟩ := mem_nth 0 h.1
      have := hd a.toNat (by omega) q hq
      rw [he] at this
      exact this
    | succ k =>
      exact inDoms_fits hd s t (by simpa using hl) (fun j hj => hs (j + 1) (by simp; omega)) h.2 k (by simpa using hk)
theorem rowsB_fits {doms : List (List Int)} {scope : List Int} (hd : ∀ i, i < doms.length → ∀ k, k < (nth [] doms i).length → Fit6 (nth 0 (nth [] doms i) k)) (hs : ∀ k, k < scope.length → 0 ≤ nth 0 scope k ∧ nth 0 scope k < doms.length) :
    ∀ (l : List (List Int)) (p : Option (List Int)), rowsB doms scope p l = true → ∀ i, i < l.length → (nth [] l i).length = scope.length ∧ ∀ k, k < (nth [] l i).length → Fit6 (nth 0 (nth [] l i) k)
  | [], _, _, i, hi => by simp at hi
  | t :: l, p, h, i, hi => by
    simp only [rowsB, Bool.and_eq_true, decide_eq_true_eq] at h
    obtain ⟨⟨⟨h1, _⟩, h2⟩, h3⟩ := h
    cases i with
    | zero => exact ⟨h1, inDoms_fits hd scope t h1 hs h2⟩
    | succ i => exact rowsB_fits hd hs l (some t) h3 i (by simpa using hi)
theorem argsB_fits (n : Nat) : ∀ (l : List Int) (i : Nat), argsB n i l = true → ∀ k, k < l.length → Fit6 (nth 0 l k)
  | [], _, _, k, hk => by simp at hk
  | a :: l, i, h, k, hk => by
    simp only [argsB, Bool.and_eq_true] at h
    cases k with
    | zero => exact small_bounds h.1.2
    | succ k => exact argsB_fits n l (i + 1) h.2 k (by simpa using hk)
/-- What is known of a right instance's parts. -/
theorem right_doms {x : Ins} (h : rightB x = true) : x.doms.length ≤ 40 ∧ ∀ i, i < x.doms.length → domainB (nth [] x.doms i) = true := by
  simp only [rightB, Bool.and_eq_true, decide_eq_true_eq] at h
  exact ⟨h.1.1.1.1.1, all_nth [] h.1.1.2⟩
theorem right_hard {x : Ins} (h : rightB x = true) : x.hard.length ≤ 200 ∧ ∀ i, i < x.hard.length → hardB x (nth default x.hard i) = true := by
  simp only [rightB, Bool.and_eq_true, decide_eq_true_eq] at h
  exact ⟨h.1.1.1.1.2, all_nth default h.1.2⟩
theorem right_soft {x : Ins} (h : rightB x = true) : x.soft.length ≤ 200 ∧ ∀ i, i < x.soft.length → softB x (nth default x.soft i) = true := by
  simp only [rightB, Bool.and_eq_true, decide_eq_true_eq] at h
  exact ⟨h.1.1.1.2, all_nth default h.2⟩
theorem doms_fits {x : Ins} (h : rightB x = true) : ∀ i, i < x.doms.length → ∀ k, k < (nth [] x.doms i).length → Fit6 (nth 0 (nth [] x.doms i) k) :=
  fun i hi => domainB_fits ((right_doms h).2 i hi)
theorem scope_fits {n : Nat} {l : List Int} (hn : n ≤ 40) (h : scopeB n l = true) : Fits l := fun k hk => by
  have := scopeB_range h k hk
  exact ⟨by omega, by omega⟩
theorem wideAny_fits {l : List Int} (h : wideAny l = false) : Fits l := fun k hk => by
  unfold wideAny at h
  rw [List.any_eq_false] at h
  have := h _ (nth_mem 0 hk)
  simp only [Bool.not_eq_true, Bool.not_eq_false'] at this
  exact small_bounds (by simpa using this)
end Go.Proofs.YtoahaigfjfeopaaGreatDoor

/- inst.Print. -/
namespace Go.Proofs.YtoahaigfjfeopaaGreatDoor
open Go.RowKit

theorem hardw_any (b : Nat) (l : List UInt8) (vs vr va : Value) (x : Ins) (c : Con) (ok : Nat → Prop) (w : World) (hB : Bld b l w) (hE : Env w) (hb8 : 8 ≤ b) (hS : Stays b w ok) (h1 : Sl (Kd.int .i64) w ok vs c.scope) (h2 : Sl kRow w ok vr c.rows) (h3 : Sl (Kd.int .i64) w ok va c.args)
    (hx : rightB x = true) (hc : hardB x c = true) (hlen : l.length + (hardP c).length ≤ 140737488355328) :
    Calls Tryz.prog 37 #[.pointer (some ⟨b, 0, none⟩), .agg #[.int .i64 c.kind, vs, vr, va]] w fun e w' => e = .returned (.tuple #[]) ∧ Bld b (l ++ hardP c) w' ∧ Kep b w w' := by
  simp only [hardB, Bool.and_eq_true, decide_eq_true_eq] at hc
  obtain ⟨⟨⟨⟨hs, hk1⟩, hk6⟩, hk2⟩, hr⟩ := hc
  have hf := scope_fits (right_doms hx).1 hs
  by_cases h6 : c.kind = 6
  · rw [if_pos h6] at hr
    simp only [linearB, Bool.and_eq_true, decide_eq_true_eq] at hr
    obtain ⟨⟨⟨ha, hh0⟩, hh2⟩, hb⟩ := hr
    exact hard_linear b l vs vr va c ok w hB hE hb8 hS h1 h6 h3 ha hh0 hh2 hf (fun k hk => (argsB_fits _ _ _ hb k hk).fit) hlen
  · rw [if_neg h6] at hr
    simp only [Bool.and_eq_true, decide_eq_true_eq] at hr
    by_cases h3' : 2 < c.kind
    · exact hard_plain b l vs vr va c ok w hB hE hb8 hS h1 h3' (by omega) hf hlen
    · have h2c := h2
      obtain ⟨_, _, _, _, hm, _⟩ := h2c
      exact hard_table b l vs vr va c ok w hB hE hb8 hS h1 hk1 (by omega) h2 hf (fun k hk => fun j hj => (rowsB_fits (doms_fits hx) (scopeB_range hs) c.rows none hr.2 k hk).2 j hj |>.fit) hm hlen
theorem softx_any (b : Nat) (l : List UInt8) (vs vr vc : Value) (x : Ins) (s : Sft) (ok : Nat → Prop) (w : World) (hB : Bld b l w) (hE : Env w) (hb8 : 8 ≤ b) (hS : Stays b w ok) (h1 : Sl (Kd.int .i64) w ok vs s.scope) (h2 : Sl kRow w ok vr s.rows) (h3 : Sl (Kd.int .i64) w ok vc s.costs)
    (hx : rightB x = true) (hc : softB x s = true) (hlen : l.length + (softP s).length ≤ 140737488355328) :
    Calls Tryz.prog 38 #[.pointer (some ⟨b, 0, none⟩), .agg #[vs, vr, vc, .int .i64 s.dflt]] w fun e w' => e = .returned (.tuple #[]) ∧ Bld b (l ++ softP s) w' ∧ Kep b w w' := by
  simp only [softB, Bool.and_eq_true, decide_eq_true_eq] at hc
  obtain ⟨⟨⟨⟨hs, hl⟩, hd⟩, hw⟩, hr⟩ := hc
  exact softw_any b l vs vr vc s ok w hB hE hb8 hS h1 h2 h3 hl.symm (scope_fits (right_doms hx).1 hs) (fun k hk => fun j hj => (rowsB_fits (doms_fits hx) (scopeB_range hs) s.rows none hr k hk).2 j hj |>.fit) (wideAny_fits (by simpa using hw)) (small_bounds hd) hlen
theorem flat_step {α : Type} (f : α → List UInt8) (z : α) (l : List α) (k : Nat) (h : k < l.length) : (l.take (k + 1)).flatMap f = (l.take k).flatMap f ++ f (nth z l k) := by
  rw [take_snoc z l k h]; simp
theorem flat_take_le {α : Type} (f : α → List UInt8) (l : List α) (k : Nat) : ((l.take k).flatMap f).length ≤ (l.flatMap f).length := by
  have : l.flatMap f = (l.take k).flatMap f ++ (l.drop k).flatMap f := by rw [← List.flatMap_append, List.take_append_drop]
  rw [this, List.length_append]; omega

set_option maxRecDepth 100000 in
set_option maxHeartbeats 1000000 in
theorem print_wrong (vD vH vS : Value) (x : Ins) (ok : Nat → Prop) (w : World) (hD : Sl kRow w ok vD x.doms) (hH : Sl kCon w ok vH x.hard) (hS : Sl kSft w ok vS x.soft) (hr : rightB x = false) :
    Calls Tryz.prog 15 #[.agg #[vD, vH, vS]] w fun e w' => e = .returned (.string ⟨(printP x).toArray⟩) ∧ Below w.heap.size w w' := by
  have hP : printP x = [] := by unfold printP; rw [hr]; rfl
  obtain ⟨AD, cD, rfl, hcD, hmD, hAD⟩ := hD
  obtain ⟨AH, cH, rfl, hcH, hmH, hAH⟩ := hH
  obtain ⟨AS, cS, rfl, hcS, hmS, hAS⟩ := hS
  have HB := Lib.hid (below_alloc1 w (.cells #[.slice AD x.doms.length cD, .slice AH x.hard.length cH, .slice AS x.soft.length cS] 26))
  have HR := Lib.hid (right_any _ _ _ x ok _ (Sl.below (v := .slice AD x.doms.length cD) (xs := x.doms) (by decide) ⟨AD, cD, rfl, hcD, hmD, hAD⟩ HB.out) (Sl.below (v := .slice AH x.hard.length cH) (xs := x.hard) (by decide) ⟨AH, cH, rfl, hcH, hmH, hAH⟩ HB.out) (Sl.below (v := .slice AS x.soft.length cS) (xs := x.soft) (by decide) ⟨AS, cS, rfl, hcS, hmS, hAS⟩ HB.out))
  have HP := Lib.hid hP
  have Hr := Lib.hid hr
  clear hP hr hAD hAH hAS
  go_enter Tryz.func15, Tryz.ntmps15
  go_wp2_with (go_at_call 14; refine HR.out.mono ?_; rintro e w' ⟨rfl, hb⟩; rw [Hr.out]; have hb' := Lib.hid hb; clear hb)
  go_ret
  exact ⟨ret_str (by rw [HP.out]), below_next HB.out hb'.out⟩

set_option maxRecDepth 100000 in
set_option maxHeartbeats 2000000 in
theorem print_right (vD vH vS : Value) (x : Ins) (ok : Nat → Prop) (w : World) (hE : Env w) (hD : Sl kRow w ok vD x.doms) (hH : Sl kCon w ok vH x.hard) (hS : Sl kSft w ok vS x.soft) (hr : rightB x = true) (hlen : (printP x).length ≤ 140737488355328) :
    Calls Tryz.prog 15 #[.agg #[vD, vH, vS]] w fun e w' => e = .returned (.string ⟨(printP x).toArray⟩) ∧ Below w.heap.size w w' := by
  have hP : printP x = domsP x.doms ++ (hardsP x.hard ++ softsP x.soft) := by unfold printP; rw [if_pos hr, List.append_assoc]
  obtain ⟨AD, cD, rfl, hcD, hmD, hAD⟩ := hD
  obtain ⟨AH, cH, rfl, hcH, hmH, hAH⟩ := hH
  obtain ⟨AS, cS, rfl, hcS, hmS, hAS⟩ := hS
  have hl : (domsP x.doms).length + (hardsP x.hard).length + (softsP x.soft).length ≤ 140737488355328 := by rw [hP, List.length_append, List.length_append] at hlen; omega
  have HB := Lib.hid (below_alloc1 w (.cells #[.slice AD x.doms.length cD, .slice AH x.hard.length cH, .slice AS x.soft.length cS] 26))
  have HD0 := Sl.move (v := .slice AD x.doms.length cD) (xs := x.doms) (by decide) (fun k _ hk => HB.out.block k hk) ⟨AD, cD, rfl, hcD, hmD, hAD⟩
  have HH0 := Sl.move (v := .slice AH x.hard.length cH) (xs := x.hard) (by decide) (fun k _ hk => HB.out.block k hk) ⟨AH, cH, rfl, hcH, hmH, hAH⟩
  have HS0 := Sl.move (v := .slice AS x.soft.length cS) (xs := x.soft) (by decide) (fun k _ hk => HB.out.block k hk) ⟨AS, cS, rfl, hcS, hmS, hAS⟩
  have HR := Lib.hid (right_any _ _ _ x _ _ HD0 HH0 HS0)
  have HG := Lib.hid (heap_alloc_new w (.cells #[.slice AD x.doms.length cD, .slice AH x.hard.length cH, .slice AS x.soft.length cS] 26))
  have HE := Lib.hid (hE.below HB.out hE.size)
  have HP := Lib.hid hP
  have Hr := Lib.hid hr
  have Hd := Lib.hid (doms_fits hr)
  clear hP hr hAD hAH hAS hE hlen
  go_enter Tryz.func15, Tryz.ntmps15
  go_wp2_with fail
  refine HR.out.mono ?_
  rintro e W1 ⟨rfl, hb⟩
  rw [Hr.out]
  have hb2 := below_alloc1 W1 (.cells #[.pointer none, .slice none 0 0] 61)
  have Hb2 := Lib.hid (below_next hb hb2)
  have g0 := cell_kept hb2 (cell_at (block_kept hb HG.out) (i := 0) rfl)
  have g1 := cell_kept hb2 (cell_at (block_kept hb HG.out) (i := 1) rfl)
  have g2 := cell_kept hb2 (cell_at (block_kept hb HG.out) (i := 2) rfl)
  have Hblk := Lib.hid (block_kept hb2 (block_kept hb HG.out))
  have hsz := hb.size
  have hsz0 : w.heap.size < (w.alloc (.cells #[.slice AD x.doms.length cD, .slice AH x.hard.length cH, .slice AS x.soft.length cS] 26)).heap.size := by simp
  have HB0 : Hid (Bld W1.heap.size [] (W1.alloc (.cells #[.pointer none, .slice none 0 0] 61))) := Lib.hid ⟨_, _, .inl rfl, heap_alloc_new W1 _, World.ownsRow_nil _ _ _ _, by simp [Value.ownBlock], fun _ => rfl⟩
  have HE1 := Lib.hid (HE.out.below (below_next hb hb2) HE.out.size)
  have hb8 : 8 ≤ W1.heap.size := Nat.le_trans HE.out.size hb.size
  have Hst : Hid (Stays W1.heap.size (W1.alloc (.cells #[.pointer none, .slice none 0 0] 61)) (fun k => ok k ∧ k < w.heap.size)) := Lib.hid fun k hk => .inl (by have := hk.2; omega)
  have HD1 := Lib.hid (Sl.below (by decide) HD0 Hb2.out)
  have HH1 := Lib.hid (Sl.below (by decide) HH0 Hb2.out)
  have HS1 := Lib.hid (Sl.below (by decide) HS0 Hb2.out)
  have Hgw : Hid (w.heap.size < W1.heap.size) := Lib.hid (by omega)
  clear hb hb2 HD0 HH0 HS0 HR HG HE
  have Hvl : Hid (varT.length = 3) := Lib.hid rfl
  have Hel : Hid (endT.length = 2) := Lib.hid rfl
  have Hg : Hid ((W1.alloc (.cells #[.pointer none, .slice none 0 0] 61)).heap[w.heap.size]? = some (.cells #[.slice AD x.doms.length cD, .slice AH x.hard.length cH, .slice AS x.soft.length cS] 26 (0, 0))) := Lib.hid Hblk.out
  go_wp2
  go_loopw [16] (fun i wr => ∃ k : Nat, i = .int .i64 k ∧ k ≤ x.doms.length ∧ Hid (Bld W1.heap.size (domsP (x.doms.take k)) wr) ∧ Hid (Kep W1.heap.size (W1.alloc (.cells #[.pointer none, .slice none 0 0] 61)) wr)) (fun i _ => x.doms.length - (intOf i).toNat)
  case atStart => exact ⟨0, rfl, by omega, HB0, Lib.hid (Kep.refl _ _)⟩
  case round =>
    obtain ⟨k, rfl, hk, HBk, HKk⟩ := hrel
    clear g0 g1 g2
    by_cases hlt : k < x.doms.length
    · obtain ⟨b1, o1, vt, rfl, e1, ht⟩ := (Sl.elems (Hst.out.sl (by decide) HD1.out HKk.out)).row hlt
      have HT := Lib.hid ht
      have hst := flat_step (fun d => varT ++ numsP d ++ endT) [] x.doms k hlt
      have hle : (domsP (x.doms.take (k + 1))).length ≤ (domsP x.doms).length := flat_take_le _ x.doms (k + 1)
      have hst' : domsP (x.doms.take (k + 1)) = domsP (x.doms.take k) ++ (varT ++ numsP (nth [] x.doms k) ++ endT) := hst
      have hb3 : (domsP (x.doms.take k)).length + 3 + (numsP (nth [] x.doms k)).length + 2 ≤ (domsP x.doms).length := by
        rw [hst', List.length_append, List.length_append, List.length_append, Hvl.out, Hel.out] at hle; omega
      have Hst2 := Lib.hid hst'
      clear hst hst' hle
      go_wp2_with fail
      refine (writeString_any _ _ ⟨varT.toArray⟩ _ HBk.out (by rw [size_mk, Hvl.out]; omega)).mono ?_
      rintro e W2 ⟨rfl, hB2, hk2⟩
      have HB2 := Lib.hid hB2
      have HK2 := Lib.hid (HKk.out.trans hk2)
      have HKt := Lib.hid hk2
      clear hB2 hk2
      go_wp2_with fail
      refine (numbers_any _ _ _ (nth [] x.doms k) _ _ HB2.out (HE1.out.below HK2.out.below hb8) hb8 ((Hst.out.kep HKk.out).sl (by decide) HT.out HKt.out) (Hst.out.kep HK2.out) (fun j hj => (Hd.out k hlt j hj).fit) (by rw [List.length_append]; show _ + varT.length + _ ≤ _; rw [Hvl.out]; omega)).mono ?_
      rintro e W3 ⟨rfl, hB3, hk3⟩
      have HB3 := Lib.hid hB3
      have HK3 := Lib.hid (HK2.out.trans hk3)
      clear hB3 hk3
      go_wp2_with fail
      refine (writeString_any _ _ ⟨endT.toArray⟩ _ HB3.out (by rw [size_mk, Hel.out, List.length_append, List.length_append]; show _ + varT.length + _ + _ ≤ _; rw [Hvl.out]; omega)).mono ?_
      rintro e W4 ⟨rfl, hB4, hk4⟩
      have HB4 := Lib.hid hB4
      have HK4 := Lib.hid (HK3.out.trans hk4)
      clear hB4 hk4
      go_wp2
      go_roundw
      case rel => exact ⟨k + 1, by go_num, by omega, Lib.hid (by rw [Hst2.out]; simpa only [List.append_assoc] using HB4.out), HK4⟩
      case measure => simp [intOf]; omega
    · have HBx : Hid (Bld W1.heap.size (domsP x.doms) wr) := by
        have e : x.doms.take k = x.doms := List.take_of_length_le (by omega)
        rw [e] at HBk; exact HBk
      clear HBk HB0
      obtain ⟨wo, rfl⟩ : ∃ wo : World, wo = wr := ⟨_, rfl⟩
      have HKo := Lib.hid HKk.out
      have g1 : wo.cell? ⟨w.heap.size, 1, none⟩ = some (.slice AH x.hard.length cH) := cell_at ((HKk.out.below.block _ Hgw.out).trans Hg.out) (i := 1) rfl
      clear HKk
      go_wp2
      clear g1
      go_loopw [30] (fun i wr => ∃ k : Nat, i = .int .i64 k ∧ k ≤ x.hard.length ∧ Hid (Bld W1.heap.size (domsP x.doms ++ hardsP (x.hard.take k)) wr) ∧ Hid (Kep W1.heap.size (W1.alloc (.cells #[.pointer none, .slice none 0 0] 61)) wr)) (fun i _ => x.hard.length - (intOf i).toNat)
      case atStart => exact ⟨0, rfl, by omega, Lib.hid (by simpa [hardsP] using HBx.out), HKo⟩
      case round =>
        obtain ⟨k, rfl, hk, HBk, HKk⟩ := hrel
        by_cases hlt : k < x.hard.length
        · obtain ⟨b1, o1, cs, rfl, _, hK, hcell⟩ := (Sl.elems (Hst.out.sl (by decide) HH1.out HKk.out)) k (nth default x.hard k) (nth_get default x.hard k hlt)
          obtain ⟨us, ur, ua, rfl, q1, q2, q3⟩ := kCon_cells hK
          have f0 := hcell 0 _ rfl
          have f1 := hcell 1 _ rfl
          have f2 := hcell 2 _ rfl
          have f3 := hcell 3 _ rfl
          simp only [show kCon.sz = 4 from rfl, Nat.add_zero, ← Nat.add_assoc] at f0 f1 f2 f3
          clear hcell hK
          have q1' := q1
          have q2' := q2
          have q3' := q3
          obtain ⟨B0, m0, rfl, _, _, _⟩ := q1
          obtain ⟨B1, m1, rfl, _, _, _⟩ := q2
          obtain ⟨B2, m2, rfl, _, _, _⟩ := q3
          have hst := flat_step (fun c => hardP c ++ endT) default x.hard k hlt
          have hle : (hardsP (x.hard.take (k + 1))).length ≤ (hardsP x.hard).length := flat_take_le _ x.hard (k + 1)
          have hst' : hardsP (x.hard.take (k + 1)) = hardsP (x.hard.take k) ++ (hardP (nth default x.hard k) ++ endT) := hst
          have hb3 : (hardsP (x.hard.take k)).length + (hardP (nth default x.hard k)).length + 2 ≤ (hardsP x.hard).length := by
            rw [hst', List.length_append, List.length_append, Hel.out] at hle; omega
          have Hst2 := Lib.hid hst'
          have hwl := Lib.hid HBk.out.lt
          have HS2 := Lib.hid ((Hst.out.kep HKk.out).below (below_alloc1 wr (.cells #[.int .i64 (nth default x.hard k).kind, .slice B0 (nth default x.hard k).scope.length m0, .slice B1 (nth default x.hard k).rows.length m1, .slice B2 (nth default x.hard k).args.length m2] 43)))
          have hcall := Lib.hid (hardw_any W1.heap.size _ _ _ _ x (nth default x.hard k) _ (wr.alloc (.cells #[.int .i64 (nth default x.hard k).kind, .slice B0 (nth default x.hard k).scope.length m0, .slice B1 (nth default x.hard k).rows.length m1, .slice B2 (nth default x.hard k).args.length m2] 43)) (HBk.out.move (below_alloc1 _ _)) ((HE1.out.below HKk.out.below hb8).below (below_alloc1 _ _) (HE1.out.below HKk.out.below hb8).size) hb8 HS2.out (q1'.below (by decide) (below_alloc1 _ _)) (q2'.below (by decide) (below_alloc1 _ _)) (q3'.below (by decide) (below_alloc1 _ _)) Hr.out ((right_hard Hr.out).2 k hlt) (by rw [List.length_append]; omega))
          clear hst hst' hle q1' q2' q3'
          go_wp2_with fail
          refine hcall.out.mono ?_
          rintro e W2 ⟨rfl, hB2, hk2⟩
          have HB2 := Lib.hid hB2
          have HK2 := Lib.hid (HKk.out.trans ((kep_alloc wr _ (Nat.le_of_lt hwl.out)).trans hk2))
          clear hB2 hk2
          go_wp2_with fail
          refine (writeString_any _ _ ⟨endT.toArray⟩ _ HB2.out (by rw [size_mk, Hel.out, List.length_append, List.length_append]; omega)).mono ?_
          rintro e W4 ⟨rfl, hB4, hk4⟩
          have HB4 := Lib.hid hB4
          have HK4 := Lib.hid (HK2.out.trans hk4)
          clear hB4 hk4 f0 f1 f2 f3
          go_wp2
          go_roundw
          case rel => exact ⟨k + 1, by go_num, by omega, Lib.hid (by rw [Hst2.out]; simpa only [List.append_assoc] using HB4.out), HK4⟩
          case measure => simp [intOf]; omega
        · have HBy : Hid (Bld W1.heap.size (domsP x.doms ++ hardsP x.hard) wr) := by
            have e : x.hard.take k = x.hard := List.take_of_length_le (by omega)
            rw [e] at HBk; exact HBk
          clear HBk HBx HKo
          have HBx := Lib.hid HBy.out
          clear HBy
          obtain ⟨wo, rfl⟩ : ∃ wo : World, wo = wr := ⟨_, rfl⟩
          have HKo := Lib.hid HKk.out
          have g2 : wo.cell? ⟨w.heap.size, 2, none⟩ = some (.slice AS x.soft.length cS) := cell_at ((HKk.out.below.block _ Hgw.out).trans Hg.out) (i := 2) rfl
          clear HKk
          go_wp2
          clear g2
          go_loopw [42] (fun i wr => ∃ k : Nat, i = .int .i64 k ∧ k ≤ x.soft.length ∧ Hid (Bld W1.heap.size (domsP x.doms ++ hardsP x.hard ++ softsP (x.soft.take k)) wr) ∧ Hid (Kep W1.heap.size (W1.alloc (.cells #[.pointer none, .slice none 0 0] 61)) wr)) (fun i _ => x.soft.length - (intOf i).toNat)
          case atStart => exact ⟨0, rfl, by omega, Lib.hid (by simpa [softsP] using HBx.out), HKo⟩
          case round =>
            obtain ⟨k, rfl, hk, HBk, HKk⟩ := hrel
            by_cases hlt : k < x.soft.length
            · obtain ⟨b1, o1, cs, rfl, _, hK, hcell⟩ := (Sl.elems (Hst.out.sl (by decide) HS1.out HKk.out)) k (nth default x.soft k) (nth_get default x.soft k hlt)
              obtain ⟨us, ur, uc, rfl, q1, q2, q3⟩ := kSft_cells hK
              have f0 := hcell 0 _ rfl
              have f1 := hcell 1 _ rfl
              have f2 := hcell 2 _ rfl
              have f3 := hcell 3 _ rfl
              simp only [show kSft.sz = 4 from rfl, Nat.add_zero, ← Nat.add_assoc] at f0 f1 f2 f3
              clear hcell hK
              have q1' := q1
              have q2' := q2
              have q3' := q3
              obtain ⟨B0, m0, rfl, _, _, _⟩ := q1
              obtain ⟨B1, m1, rfl, _, _, _⟩ := q2
              obtain ⟨B2, m2, rfl, _, _, _⟩ := q3
              have hst := flat_step (fun c => softP c ++ endT) default x.soft k hlt
              have hle : (softsP (x.soft.take (k + 1))).length ≤ (softsP x.soft).length := flat_take_le _ x.soft (k + 1)
              have hst' : softsP (x.soft.take (k + 1)) = softsP (x.soft.take k) ++ (softP (nth default x.soft k) ++ endT) := hst
              have hb3 : (softsP (x.soft.take k)).length + (softP (nth default x.soft k)).length + 2 ≤ (softsP x.soft).length := by
                rw [hst', List.length_append, List.length_append, Hel.out] at hle; omega
              have Hst2 := Lib.hid hst'
              have hwl := Lib.hid HBk.out.lt
              have HS2 := Lib.hid ((Hst.out.kep HKk.out).below (below_alloc1 wr (.cells #[.slice B0 (nth default x.soft k).scope.length m0, .slice B1 (nth default x.soft k).rows.length m1, .slice B2 (nth default x.soft k).costs.length m2, .int .i64 (nth default x.soft k).dflt] 47)))
              have hcall := Lib.hid (softx_any W1.heap.size _ _ _ _ x (nth default x.soft k) _ (wr.alloc (.cells #[.slice B0 (nth default x.soft k).scope.length m0, .slice B1 (nth default x.soft k).rows.length m1, .slice B2 (nth default x.soft k).costs.length m2, .int .i64 (nth default x.soft k).dflt] 47)) (HBk.out.move (below_alloc1 _ _)) ((HE1.out.below HKk.out.below hb8).below (below_alloc1 _ _) (HE1.out.below HKk.out.below hb8).size) hb8 HS2.out (q1'.below (by decide) (below_alloc1 _ _)) (q2'.below (by decide) (below_alloc1 _ _)) (q3'.below (by decide) (below_alloc1 _ _)) Hr.out ((right_soft Hr.out).2 k hlt) (by simp only [List.length_append]; omega))
              clear hst hst' hle q1' q2' q3'
              go_wp2_with fail
              refine hcall.out.mono ?_
              rintro e W2 ⟨rfl, hB2, hk2⟩
              have HB2 := Lib.hid hB2
              have HK2 := Lib.hid (HKk.out.trans ((kep_alloc wr _ (Nat.le_of_lt hwl.out)).trans hk2))
              clear hB2 hk2
              go_wp2_with fail
              refine (writeString_any _ _ ⟨endT.toArray⟩ _ HB2.out (by rw [size_mk, Hel.out]; simp only [List.length_append]; omega)).mono ?_
              rintro e W4 ⟨rfl, hB4, hk4⟩
              have HB4 := Lib.hid hB4
              have HK4 := Lib.hid (HK2.out.trans hk4)
              clear hB4 hk4 f0 f1 f2 f3
              go_wp2
              go_roundw
              case rel => exact ⟨k + 1, by go_num, by omega, Lib.hid (by rw [Hst2.out]; simpa only [List.append_assoc] using HB4.out), HK4⟩
              case measure => simp [intOf]; omega
            · have HBy : Hid (Bld W1.heap.size (domsP x.doms ++ hardsP x.hard ++ softsP x.soft) wr) := by
                have e : x.soft.take k = x.soft := List.take_of_length_le (by omega)
                rw [e] at HBk; exact HBk
              clear HBk HBx HKo
              go_wp2_with (go_at_call 39; refine (string_any _ _ _ HBy.out).mono ?_; rintro e W5 ⟨rfl, hb5⟩; have Hb5 := Lib.hid hb5; clear hb5)
              go_ret
              refine ⟨ret_str (by rw [HP.out]), ?_⟩
              exact below_next HB.out (Hb2.out.trans ((HKk.out.below.trans Hb5.out).mono (by have := Hgw.out; simp; omega)))

/-- inst.Print. -/
theorem print_any (vD vH vS : Value) (x : Ins) (ok : Nat → Prop) (w : World) (hE : Env w) (hD : Sl kRow w ok vD x.doms) (hH : Sl kCon w ok vH x.hard) (hS : Sl kSft w ok vS x.soft) (hlen : (printP x).length ≤ 140737488355328) :
    Calls Tryz.prog 15 #[.agg #[vD, vH, vS]] w fun e w' => e = .returned (.string ⟨(printP x).toArray⟩) ∧ Below w.heap.size w w' := by
  cases hr : rightB x
  · exact print_wrong vD vH vS x ok w hD hH hS hr
  · exact print_right vD vH vS x ok w hE hD hH hS hr hlen
end Go.Proofs.YtoahaigfjfeopaaGreatDoor
