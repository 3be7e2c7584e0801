/- Texts joined: Pa Ba Wa Pb Wb Wg Pc Wh Ra Rb Rc Wc Pe Wn Wo Wp Wq. -/
import Derived.Below
import Derived.Deep.Draws
import Derived.Maps.AppendAt
import Derived.OwnWalk
import Derived.WalkKit
import Derived.Laws.MakeOwn
import Derived.Laws.OwnMore
import Derived.KernelRfl
import Derived.Test.YtgpgmmkkmoecmaaGreatDoorProg
import Derived.ProofKit
import Derived.Deep.QuietTactic
import Derived.BigQuiet
import Derived.WalkSpells
import Derived.Outline
import Derived.Lib.Hide
import Derived.Lib.Builder
import Derived.Lib.OthersKept
import Derived.Lib.AppendStr
import Derived.Lib.UnsafeStr
import Derived.Lib.MakeNoZero
import Derived.Lib.OwnKind
import Derived.OrdersHeld
import Derived.Shelf.Strings.Builder1
import Derived.Lib.ItoaNum
import Derived.Test.YtgpgmmkkmoecmaaGreatDoorShelf
import Derived.Deep.RegionWith
import Derived.Deep.DeepFit
import Derived.BigRegion
import Derived.Lib.ItoaLen
import Derived.Laws.Concat
import Derived.Test.YtgpgmmkkmoecmaaGreatDoorCards
import Derived.Test.YtgpgmmkkmoecmaaGreatDoorTie
import Derived.OpenShut
import Derived.Deep.DeepHandedRow
import Derived.Deep.DeepWitnessRowRef
import Derived.Lib.LaidTab
import Derived.Stop.LaidErr
import Derived.LaidMore
import Derived.Carry
import Derived.Lib.ParseIntB
import Derived.Laws.DeepStrings4
import Derived.Lib.IndexBytes
import Derived.Lib.AtoiErrMem
import Derived.Laws.ResultCell
import Derived.ScopeJumps
import Derived.Scope
import Derived.LoopTactic
import Derived.Deep.OwnRows
import Derived.Deep.AppendLies
import Derived.Laws.BytesArg
/- The plain functions that the program computes, part 1: rows of numbers. No program, no memory. -/
namespace Go.Proofs.YtgpgmmkkmoecmaaGreatDoor

/-- An element by its place. -/
def nth {α : Type} (z : α) (xs : List α) (k : Nat) : α := xs.getD k z
theorem nth_get {α : Type} (z : α) (xs : List α) (k : Nat) (h : k < xs.length) : xs[k]? = some (nth z xs k) := by simp [nth, List.getD_eq_getElem?_getD, List.getElem?_eq_getElem h]
/-- Two numbers held against each other. -/
def cmp1 (a b : Int) : Int := if a < b then -1 else if b < a then 1 else 0
/-- Two rows held against each other. -/
def cmpL : List Int → List Int → Int
  | [], [] => 0
  | [], _ :: _ => -1
  | _ :: _, [] => 1
  | a :: l, b :: m => if a < b then -1 else if b < a then 1 else cmpL l m
/-- Numbers rise. -/
def risingB : List Int → Bool
  | a :: b :: r => decide (a < b) && risingB (b :: r)
  | _ => true
def smallB (n most : Int) : Bool := decide (-most ≤ n) && decide (n ≤ most)
/-- Where a number stands, from a place on; -1: nowhere. -/
def indexFrom (x : Int) : Nat → List Int → Int
  | _, [] => -1
  | i, a :: r => if a = x then i else indexFrom x (i + 1) r

theorem drop_cons {α : Type} (xs : List α) (z : α) (k : Nat) (h : k < xs.length) : xs.drop k = nth z xs k :: xs.drop (k + 1) := by
  rw [List.drop_eq_getElem_cons h]
  simp [nth, List.getD_eq_getElem?_getD, List.getElem?_eq_getElem h]
theorem indexFrom_ge (x : Int) : ∀ (l : List Int) (i : Nat), 0 ≤ indexFrom x i l ↔ x ∈ l
  | [], i => by simp [indexFrom]
  | a :: r, i => by
    unfold indexFrom
    split
    · rename_i h; simp [h]
    · rename_i h
      rw [indexFrom_ge x r (i + 1)]
      simp [Ne.symm h]
theorem indexFrom_le (x : Int) : ∀ (l : List Int) (i : Nat), indexFrom x i l ≤ i + l.length ∧ -1 ≤ indexFrom x i l
  | [], i => by simp [indexFrom]
  | a :: r, i => by
    unfold indexFrom
    split
    · simp; omega
    · have := indexFrom_le x r (i + 1)
      simp only [List.length_cons]
      omega
theorem risingB_drop (xs : List Int) (k : Nat) (h : k + 1 < xs.length) : risingB (xs.drop k) = (decide (nth 0 xs k < nth 0 xs (k + 1)) && risingB (xs.drop (k + 1))) := by
  rw [drop_cons xs 0 k (by omega), drop_cons xs 0 (k + 1) h, risingB]
theorem risingB_last (xs : List Int) (k : Nat) (h : xs.length ≤ k + 1) : risingB (xs.drop k) = true := by
  rcases Nat.lt_or_ge k xs.length with h1 | h1
  · rw [drop_cons xs 0 k h1, List.drop_eq_nil_of_le (by omega)]; rfl
  · rw [List.drop_eq_nil_of_le h1]; rfl
end Go.Proofs.YtgpgmmkkmoecmaaGreatDoor

/- What memory holds: readable data, rows of the call's own, and how they outlive later writes. Plain lemmas over the model; no program. -/
namespace Go.Proofs.YtgpgmmkkmoecmaaGreatDoor
open Go.RowKit

theorem ret_int {k : IntKind} {a b : Int} (h : a = b) : Ending.returned (.int k a) = .returned (.int k b) := by rw [h]
theorem ret_bool {a b : Bool} (h : a = b) : Ending.returned (.bool a) = .returned (.bool b) := by rw [h]
theorem ret_str {a b : ByteArray} (h : a = b) : Ending.returned (.string a) = .returned (.string b) := by rw [h]
/-- A kind of data: how many cells a value has, and what they say; 'ok': the blocks in which the value's inner rows may lie. -/
structure Kd (α : Type) where
  sz : Nat
  K : World → (Nat → Prop) → α → List Value → Prop
  len : ∀ {w ok x cs}, K w ok x cs → cs.length = sz
  one : ∀ {w ok x cs}, K w ok x cs → ∀ u ∈ cs, u.oneCell' = true
  mono : ∀ {w} {ok ok' : Nat → Prop} {x cs}, (∀ k, ok k → ok' k) → K w ok x cs → K w ok' x cs
  move : ∀ {w w1 : World} {ok x cs}, (∀ k, ok k → k < w.heap.size → w1.heap[k]? = w.heap[k]?) → K w ok x cs → K w1 (fun k => ok k ∧ k < w.heap.size) x cs

/-- The elements of a row that can be read. -/
def Elems {α : Type} (d : Kd α) (w : World) (ok : Nat → Prop) (A : Option Addr) (xs : List α) : Prop :=
  ∀ j x, xs[j]? = some x → ∃ b o cs, A = some ⟨b, o, none⟩ ∧ ok b ∧ d.K w ok x cs ∧ ∀ i u, cs[i]? = some u → w.cell? ⟨b, o + (j * d.sz + i), none⟩ = some u

/-- A slice that can be read. -/
def Sl {α : Type} (d : Kd α) (w : World) (ok : Nat → Prop) (v : Value) (xs : List α) : Prop :=
  ∃ A c, v = .slice A xs.length c ∧ xs.length ≤ c ∧ xs.length ≤ 140737488355328 ∧ Elems d w ok A xs

theorem Elems.mono {α : Type} {d : Kd α} {w : World} {ok ok' : Nat → Prop} {A : Option Addr} {xs : List α} (hk : ∀ k, ok k → ok' k) (h : Elems d w ok A xs) : Elems d w ok' A xs := by
  intro j x hx
  obtain ⟨b, o, cs, h1, h2, h3, h4⟩ := h j x hx
  exact ⟨b, o, cs, h1, hk b h2, d.mono hk h3, h4⟩
theorem lt_of_cell {w : World} {a : Addr} {u : Value} (h : w.cell? a = some u) : a.block < w.heap.size := World.block_lt_of_cell? w a h
theorem Elems.move {α : Type} {d : Kd α} {w w1 : World} {ok : Nat → Prop} {A : Option Addr} {xs : List α} (hs : 0 < d.sz) (hm : ∀ k, ok k → k < w.heap.size → w1.heap[k]? = w.heap[k]?) (h : Elems d w ok A xs) : Elems d w1 (fun k => ok k ∧ k < w.heap.size) A xs := by
  intro j x hx
  obtain ⟨b, o, cs, h1, h2, h3, h4⟩ := h j x hx
  have hl := d.len h3
  have hb : b < w.heap.size := lt_of_cell (h4 0 _ (List.getElem?_eq_getElem (show 0 < cs.length by omega)))
  refine ⟨b, o, cs, h1, ⟨h2, hb⟩, d.move hm h3, fun i u hu => ?_⟩
  exact (World.cell?_of_block (w := w) (hm b h2 hb)).trans (h4 i u hu)
theorem Sl.mono {α : Type} {d : Kd α} {w : World} {ok ok' : Nat → Prop} {v : Value} {xs : List α} (hk : ∀ k, ok k → ok' k) (h : Sl d w ok v xs) : Sl d w ok' v xs := by
  obtain ⟨A, c, h1, h2, h3, h4⟩ := h
  exact ⟨A, c, h1, h2, h3, h4.mono hk⟩
theorem Sl.move {α : Type} {d : Kd α} {w w1 : World} {ok : Nat → Prop} {v : Value} {xs : List α} (hs : 0 < d.sz) (hm : ∀ k, ok k → k < w.heap.size → w1.heap[k]? = w.heap[k]?) (h : Sl d w ok v xs) : Sl d w1 (fun k => ok k ∧ k < w.heap.size) v xs := by
  obtain ⟨A, c, h1, h2, h3, h4⟩ := h
  exact ⟨A, c, h1, h2, h3, h4.move hs hm⟩
theorem Sl.elems {α : Type} {d : Kd α} {w : World} {ok : Nat → Prop} {A : Option Addr} {n c : Nat} {xs : List α} (h : Sl d w ok (.slice A n c) xs) : Elems d w ok A xs := by
  obtain ⟨_, _, he, _, _, hA⟩ := h
  injection he with he1 _ _
  rw [he1]; exact hA
/-- The usual mover: all that was there stands. -/
theorem Sl.below {α : Type} {d : Kd α} {w w1 : World} {ok : Nat → Prop} {v : Value} {xs : List α} (hs : 0 < d.sz) (h : Sl d w ok v xs) (hb : Below w.heap.size w w1) : Sl d w1 ok v xs :=
  (h.move hs fun k _ hk => hb.block k hk).mono fun _ h => h.1
theorem Kd.below {α : Type} (d : Kd α) {w w1 : World} {ok : Nat → Prop} {x : α} {cs : List Value} (h : d.K w ok x cs) (hb : Below w.heap.size w w1) : d.K w1 ok x cs :=
  d.mono (fun _ h => h.1) (d.move (fun k _ hk => hb.block k hk) h)

/-! ### The kinds -/
namespace Kd
def scalar {α : Type} (enc : α → Value) (h1 : ∀ x, (enc x).oneCell' = true) : Kd α where
  sz := 1
  K := fun _ _ x cs => cs = [enc x]
  len := fun h => by rw [h]; rfl
  one := fun h u hu => by rw [h] at hu; rw [List.mem_singleton.1 hu]; exact h1 _
  mono := fun _ h => h
  move := fun _ h => h
def int (k : IntKind) : Kd Int := scalar (Value.int k) (fun _ => rfl)
def str : Kd ByteArray := scalar Value.string (fun _ => rfl)
def bool : Kd Bool := scalar Value.bool (fun _ => rfl)
def slice {α : Type} (d : Kd α) (hs : 0 < d.sz) : Kd (List α) where
  sz := 1
  K := fun w ok xs cs => ∃ v, cs = [v] ∧ Sl d w ok v xs
  len := fun ⟨_, h, _⟩ => by rw [h]; rfl
  one := fun ⟨_, h, A, c, h1, _⟩ u hu => by rw [h] at hu; rw [List.mem_singleton.1 hu, h1]; rfl
  mono := fun hk ⟨v, h, h1⟩ => ⟨v, h, h1.mono hk⟩
  move := fun hm ⟨v, h, h1⟩ => ⟨v, h, h1.move hs hm⟩
def pair {α β : Type} (a : Kd α) (b : Kd β) : Kd (α × β) where
  sz := a.sz + b.sz
  K := fun w ok x cs => ∃ c0 c1, cs = c0 ++ c1 ∧ a.K w ok x.1 c0 ∧ b.K w ok x.2 c1
  len := fun ⟨c0, c1, h, h0, h1⟩ => by rw [h, List.length_append, a.len h0, b.len h1]
  one := fun ⟨c0, c1, h, h0, h1⟩ u hu => by
    rw [h] at hu
    rcases List.mem_append.1 hu with hu | hu
    · exact a.one h0 u hu
    · exact b.one h1 u hu
  mono := fun hk ⟨c0, c1, h, h0, h1⟩ => ⟨c0, c1, h, a.mono hk h0, b.mono hk h1⟩
  move := fun hm ⟨c0, c1, h, h0, h1⟩ => ⟨c0, c1, h, a.move hm h0, b.move hm h1⟩
def iso {α β : Type} (d : Kd α) (f : β → α) : Kd β where
  sz := d.sz
  K := fun w ok x cs => d.K w ok (f x) cs
  len := d.len
  one := d.one
  mono := d.mono
  move := d.move
end Kd

/-! ### Elements that are read -/
theorem Sl.at_ {α : Type} {d : Kd α} {w : World} {ok : Nat → Prop} {A : Option Addr} {xs : List α} (h : Elems d w ok A xs) {j : Nat} {x : α} (hx : xs[j]? = some x) :
    ∃ b o cs, A = some ⟨b, o, none⟩ ∧ ok b ∧ d.K w ok x cs ∧ ∀ i u, cs[i]? = some u → w.cell? ⟨b, o + (j * d.sz + i), none⟩ = some u := h j x hx
/-- One cell an element. -/
theorem Elems.cell {α : Type} {enc : α → Value} {h1 : ∀ x, (enc x).oneCell' = true} {w : World} {ok : Nat → Prop} {A : Option Addr} {xs : List α} (h : Elems (Kd.scalar enc h1) w ok A xs) {j : Nat} {x : α} (hx : xs[j]? = some x) :
    ∃ b o, A = some ⟨b, o, none⟩ ∧ w.cell? ⟨b, o + j, none⟩ = some (enc x) := by
  obtain ⟨b, o, cs, hA, _, hk, hc⟩ := h j x hx
  refine ⟨b, o, hA, ?_⟩
  have hk' : cs = [enc x] := hk
  have := hc 0 (enc x) (by rw [hk']; rfl)
  simpa [Kd.scalar] using this
theorem Elems.num {k : IntKind} {w : World} {ok : Nat → Prop} {A : Option Addr} {xs : List Int} (h : Elems (Kd.int k) w ok A xs) {j : Nat} (hj : j < xs.length) :
    ∃ b o, A = some ⟨b, o, none⟩ ∧ w.cell? ⟨b, o + j, none⟩ = some (.int k (nth 0 xs j)) := by
  have := Elems.cell (enc := Value.int k) h (j := j) (x := nth 0 xs j) (nth_get 0 xs j hj)
  exact this
/-- A slice in each cell. -/
theorem Elems.row {α : Type} {d : Kd α} {hs : 0 < d.sz} {w : World} {ok : Nat → Prop} {A : Option Addr} {xs : List (List α)} (h : Elems (Kd.slice d hs) w ok A xs) {j : Nat} (hj : j < xs.length) :
    ∃ b o v, A = some ⟨b, o, none⟩ ∧ w.cell? ⟨b, o + j, none⟩ = some v ∧ Sl d w ok v (nth [] xs j) := by
  obtain ⟨b, o, cs, hA, _, ⟨v, hv, hk⟩, hc⟩ := h j (nth [] xs j) (nth_get [] xs j hj)
  refine ⟨b, o, v, hA, ?_, hk⟩
  have := hc 0 v (by rw [hv]; rfl)
  simpa [Kd.slice] using this

end Go.Proofs.YtgpgmmkkmoecmaaGreatDoor

/- What small functions on numbers and rows of numbers compute: tuple.Rising, Compare, slices.Index and Contains, inst.small. -/
namespace Go.Proofs.YtgpgmmkkmoecmaaGreatDoor
open Go.RowKit

theorem small_any (n m : Int) (w : World) (h3 : 0 ≤ m) (h4 : m ≤ 9223372036854775807) :
    Calls Tryz.prog 51 #[.int .i64 n, .int .i64 m] w fun e w' => e = .returned (.bool (smallB n m)) ∧ w = w' := by
  by_cases h : -m ≤ n
  · go_enter Tryz.func51, Tryz.ntmps51
    go_wp2
    go_ret
    exact ⟨by simp [smallB, h], rfl⟩
  · go_enter Tryz.func51, Tryz.ntmps51
    go_wp2
    go_ret
    exact ⟨by simp [smallB]; omega, rfl⟩
theorem small64_any (n m : Int) (w : World) (h3 : 0 ≤ m) (h4 : m ≤ 9223372036854775807) :
    Calls Tryz.prog 58 #[.int .i64 n, .int .i64 m] w fun e w' => e = .returned (.bool (smallB n m)) ∧ w = w' := by
  by_cases h : -m ≤ n
  · go_enter Tryz.func58, Tryz.ntmps58
    go_wp2
    go_ret
    exact ⟨by simp [smallB, h], rfl⟩
  · go_enter Tryz.func58, Tryz.ntmps58
    go_wp2
    go_ret
    exact ⟨by simp [smallB]; omega, rfl⟩
theorem cmp1_any (a b : Int) (w : World) :
    Calls Tryz.prog 212 #[.int .i64 a, .int .i64 b] w fun e w' => e = .returned (.int .i64 (cmp1 a b)) ∧ w = w' := by
  by_cases h : a < b
  · go_enter Tryz.func212, Tryz.ntmps212
    go_wp2
    go_ret
    exact ⟨by simp [cmp1, h], rfl⟩
  · by_cases h2 : b < a
    · go_enter Tryz.func212, Tryz.ntmps212
      go_wp2
      go_ret
      exact ⟨ret_int (by unfold cmp1; rw [if_neg (by omega), if_pos h2]), rfl⟩
    · go_enter Tryz.func212, Tryz.ntmps212
      go_wp2
      go_ret
      exact ⟨ret_int (by unfold cmp1; rw [if_neg (by omega), if_neg (by omega)]), rfl⟩

theorem compare_any (v1 v2 : Value) (xs ys : List Int) (ok : Nat → Prop) (w : World) (h1 : Sl (Kd.int .i64) w ok v1 xs) (h2 : Sl (Kd.int .i64) w ok v2 ys) :
    Calls Tryz.prog 154 #[v1, v2] w fun e w' => e = .returned (.int .i64 (cmpL xs ys)) ∧ w = w' := by
  obtain ⟨A, c, rfl, hc, hm, hA⟩ := h1
  obtain ⟨A', c', rfl, hc', hm', hA'⟩ := h2
  go_enter Tryz.func154, Tryz.ntmps154
  go_wp2
  go_loop [11] (fun i => ∃ k : Nat, i = .int .i64 k ∧ k ≤ xs.length ∧ k ≤ ys.length ∧ Hid (cmpL xs ys = cmpL (xs.drop k) (ys.drop k))) (fun i => xs.length - (intOf i).toNat)
  case atStart => exact ⟨0, rfl, by omega, by omega, Lib.hid rfl⟩
  case round =>
    obtain ⟨k, rfl, hk, hk', H⟩ := hrel
    by_cases hlt : k < xs.length
    · obtain ⟨b, o, rfl, hcell⟩ := hA.num hlt
      by_cases hlt' : k < ys.length
      · obtain ⟨b', o', rfl, hcell'⟩ := hA'.num hlt'
        clear hA hA'
        have H' : Hid (cmpL (xs.drop k) (ys.drop k) = if nth 0 xs k < nth 0 ys k then -1 else if nth 0 ys k < nth 0 xs k then 1 else cmpL (xs.drop (k + 1)) (ys.drop (k + 1))) := by
          rw [drop_cons xs 0 k hlt, drop_cons ys 0 k hlt', cmpL]; exact Lib.hid rfl
        by_cases h : nth 0 xs k < nth 0 ys k
        · have hc1 : cmp1 (nth 0 xs k) (nth 0 ys k) = -1 := by simp [cmp1, h]
          go_wp2_with (go_at_call 212; refine (cmp1_any _ _ _).mono ?_; rintro e w' ⟨rfl, rfl⟩)
          go_ret
          exact ⟨ret_int (by rw [H.out, H'.out, if_pos h]), rfl⟩
        · by_cases h2 : nth 0 ys k < nth 0 xs k
          · have hc1 : cmp1 (nth 0 xs k) (nth 0 ys k) = 1 := by simp [cmp1, h, h2]
            go_wp2_with (go_at_call 212; refine (cmp1_any _ _ _).mono ?_; rintro e w' ⟨rfl, rfl⟩)
            go_ret
            exact ⟨ret_int (by rw [H.out, H'.out, if_neg (by omega), if_pos h2]), rfl⟩
          · have hc1 : cmp1 (nth 0 xs k) (nth 0 ys k) = 0 := by simp [cmp1, h, h2]
            go_wp2_with (go_at_call 212; refine (cmp1_any _ _ _).mono ?_; rintro e w' ⟨rfl, rfl⟩)
            go_round
            case rel => exact ⟨k + 1, by go_num, by omega, by omega, Lib.hid (by rw [H.out, H'.out, if_neg (by omega), if_neg (by omega)])⟩
            case measure => simp [intOf]; omega
      · go_wp2
        go_ret
        refine ⟨ret_int ?_, rfl⟩
        rw [H.out, drop_cons xs 0 k hlt, List.drop_eq_nil_of_le (show ys.length ≤ k by omega)]; rfl
    · by_cases hlt' : k < ys.length
      · go_wp2
        go_ret
        refine ⟨ret_int ?_, rfl⟩
        rw [H.out, drop_cons ys 0 k hlt', List.drop_eq_nil_of_le (show xs.length ≤ k by omega)]; rfl
      · go_wp2
        go_ret
        refine ⟨ret_int ?_, rfl⟩
        rw [H.out, List.drop_eq_nil_of_le (show xs.length ≤ k by omega), List.drop_eq_nil_of_le (show ys.length ≤ k by omega)]; rfl

theorem tcompare_any (v1 v2 : Value) (xs ys : List Int) (ok : Nat → Prop) (w : World) (h1 : Sl (Kd.int .i64) w ok v1 xs) (h2 : Sl (Kd.int .i64) w ok v2 ys) :
    Calls Tryz.prog 89 #[v1, v2] w fun e w' => e = .returned (.int .i64 (cmpL xs ys)) ∧ w = w' := by
  go_enter Tryz.func89, Tryz.ntmps89
  go_wp2_with (go_at_call 154; refine (compare_any _ _ _ _ _ _ h1 h2).mono ?_; rintro e w' ⟨rfl, rfl⟩)
  go_ret
  exact ⟨rfl, rfl⟩

theorem index_any (v : Value) (xs : List Int) (x : Int) (ok : Nat → Prop) (w : World) (h1 : Sl (Kd.int .i64) w ok v xs) :
    Calls Tryz.prog 155 #[v, .int .i64 x] w fun e w' => e = .returned (.int .i64 (indexFrom x 0 xs)) ∧ w = w' := by
  obtain ⟨A, c, rfl, hc, hm, hA⟩ := h1
  go_enter Tryz.func155, Tryz.ntmps155
  go_wp2
  go_loop [8] (fun i => ∃ k : Nat, i = .int .i64 k ∧ k ≤ xs.length ∧ Hid (indexFrom x 0 xs = indexFrom x k (xs.drop k))) (fun i => xs.length - (intOf i).toNat)
  case atStart => exact ⟨0, rfl, by omega, Lib.hid rfl⟩
  case round =>
    obtain ⟨k, rfl, hk, H⟩ := hrel
    by_cases hlt : k < xs.length
    · obtain ⟨b, o, rfl, hcell⟩ := hA.num hlt
      have H' : Hid (indexFrom x k (xs.drop k) = if nth 0 xs k = x then (k : Int) else indexFrom x (k + 1) (xs.drop (k + 1))) := by
        rw [drop_cons xs 0 k hlt, indexFrom]; exact Lib.hid rfl
      clear hA
      by_cases h : nth 0 xs k = x
      · have hb : (x == nth 0 xs k) = true := by simp [h]
        have h' := Lib.hid h; clear h
        go_wp2
        go_ret
        exact ⟨ret_int (by rw [H.out, H'.out, if_pos h'.out]), rfl⟩
      · have hb : (x == nth 0 xs k) = false := by simp; exact fun e => h e.symm
        go_wp2
        go_round
        case rel => exact ⟨k + 1, by go_num, by omega, Lib.hid (by rw [H.out, H'.out, if_neg h])⟩
        case measure => simp [intOf]; omega
    · go_wp2
      go_ret
      refine ⟨ret_int ?_, rfl⟩
      rw [H.out, List.drop_eq_nil_of_le (by omega)]; rfl

theorem contains_any (v : Value) (xs : List Int) (x : Int) (ok : Nat → Prop) (w : World) (h1 : Sl (Kd.int .i64) w ok v xs) :
    Calls Tryz.prog 90 #[v, .int .i64 x] w fun e w' => e = .returned (.bool (decide (x ∈ xs))) ∧ w = w' := by
  have hb := indexFrom_ge x xs 0
  have hx : Hid (decide (x ∈ xs) = decide (0 ≤ indexFrom x 0 xs)) := Lib.hid (decide_eq_decide.2 hb.symm)
  clear hb
  go_enter Tryz.func90, Tryz.ntmps90
  go_wp2_with (go_at_call 155; refine (index_any _ _ _ _ _ h1).mono ?_; rintro e w' ⟨rfl, rfl⟩)
  go_ret
  exact ⟨ret_bool (by rw [hx.out]), rfl⟩

theorem rising_any (v : Value) (xs : List Int) (ok : Nat → Prop) (w : World) (h1 : Sl (Kd.int .i64) w ok v xs) :
    Calls Tryz.prog 50 #[v] w fun e w' => e = .returned (.bool (risingB xs)) ∧ ∃ n, w' = w.drewN n := by
  obtain ⟨A, c, rfl, hc, hm, hA⟩ := h1
  go_enter Tryz.func50, Tryz.ntmps50
  go_wp2
  go_loopw [3] (fun i wr => ∃ k : Nat, i = .int .i64 (k + 1) ∧ Hid (risingB xs = risingB (xs.drop k)) ∧ (k ≤ xs.length) ∧ ∃ n, wr = w.drewN n) (fun i _ => xs.length - (intOf i).toNat)
  case atStart => exact ⟨0, rfl, Lib.hid rfl, by omega, 0, rfl⟩
  case round =>
    obtain ⟨k, rfl, H, hk, nd, rfl⟩ := hrel
    by_cases hlt : k + 1 < xs.length
    · obtain ⟨b, o, rfl, c1⟩ := hA.num (j := k) (by omega)
      obtain ⟨b', o', he, c2⟩ := hA.num hlt
      injection he with he
      injection he with he1 he2
      subst he1 he2
      have H' := Lib.hid (risingB_drop xs k hlt)
      have h1 : IntKind.i64.wrap ((k:Int) + 1 - 1) = k := by rw [show (k:Int) + 1 - 1 = k from by omega]; exact IntWalk.i64_in _ (by omega)
      have h2 : ((k:Int) + 1).toNat = k + 1 := by omega
      clear hA
      by_cases h : nth 0 xs (k + 1) ≤ nth 0 xs k
      · go_wp2
        go_quiet (fail)
        go_wp2
        go_ret
        exact ⟨ret_bool (by rw [H.out, H'.out]; simp; omega), by first | exact ⟨_, rfl⟩ | exact ⟨_, World.drewN_drewN ..⟩⟩
      · go_wp2
        go_quiet (fail)
        go_wp2
        go_roundw
        case rel => exact ⟨k + 1, by go_num, Lib.hid (by rw [H.out, H'.out]; simp; omega), by omega, _, rfl⟩
        case measure => simp [intOf]; omega
    · go_wp2
      go_ret
      exact ⟨ret_bool (by rw [H.out, risingB_last xs k (by omega)]), _, rfl⟩
end Go.Proofs.YtgpgmmkkmoecmaaGreatDoor

/- The plain functions that the program computes, part 2: which instances are right. No program, no memory. -/
namespace Go.Proofs.YtgpgmmkkmoecmaaGreatDoor

structure Con where
  kind : Int
  scope : List Int
  rows : List (List Int)
  args : List Int
  deriving DecidableEq, Inhabited
structure Sft where
  scope : List Int
  rows : List (List Int)
  costs : List Int
  dflt : Int
  deriving DecidableEq, Inhabited
structure Ins where
  doms : List (List Int)
  hard : List Con
  soft : List Sft
  deriving DecidableEq, Inhabited

def domainB (d : List Int) : Bool :=
  decide (0 < d.length) && decide (d.length ≤ 16) && risingB d && smallB (nth 0 d 0) 1000000 && smallB (nth 0 d (d.length - 1)) 1000000
def scopeB (n : Nat) (l : List Int) : Bool :=
  decide (0 < l.length) && decide (l.length ≤ 6) && risingB l && decide (0 ≤ nth 0 l 0) && decide (nth 0 l (l.length - 1) < n)
/-- A row's numbers, each held against its variable's domain. -/
def inDoms (doms : List (List Int)) : List Int → List Int → Bool
  | s :: ss, n :: ns => decide (n ∈ nth [] doms s.toNat) && inDoms doms ss ns
  | _, _ => true
/-- Rows over a scope, behind the one ahead. -/
def rowsB (doms : List (List Int)) (scope : List Int) : Option (List Int) → List (List Int) → Bool
  | _, [] => true
  | ahead, t :: r => decide (t.length = scope.length) && (match ahead with | none => true | some p => decide (cmpL p t < 0)) && inDoms doms scope t && rowsB doms scope (some t) r
def argsB (n : Nat) : Nat → List Int → Bool
  | _, [] => true
  | i, a :: r => !(decide (i < n) && decide (a = 0)) && smallB a 1000000 && argsB n (i + 1) r
def linearB (c : Con) : Bool :=
  decide (c.args.length = c.scope.length + 2) && decide (0 ≤ nth 0 c.args c.scope.length) && decide (nth 0 c.args c.scope.length ≤ 2) && argsB c.scope.length 0 c.args
def hardB (x : Ins) (c : Con) : Bool :=
  scopeB x.doms.length c.scope && decide (1 ≤ c.kind) && decide (c.kind ≤ 6) && !(decide (2 < c.kind) && decide (0 < c.rows.length)) &&
    if c.kind = 6 then linearB c else decide (c.args.length = 0) && rowsB x.doms c.scope none c.rows
def wideAny (l : List Int) : Bool := l.any fun n => !smallB n 1000000000000
def softB (x : Ins) (s : Sft) : Bool :=
  scopeB x.doms.length s.scope && decide (s.costs.length = s.rows.length) && smallB s.dflt 1000000000000 && !wideAny s.costs && rowsB x.doms s.scope none s.rows
def rightB (x : Ins) : Bool :=
  decide (x.doms.length ≤ 40) && decide (x.hard.length ≤ 200) && decide (x.soft.length ≤ 200) && x.doms.all domainB && x.hard.all (hardB x) && x.soft.all (softB x)
end Go.Proofs.YtgpgmmkkmoecmaaGreatDoor

/- What the functions that tell right instances compute. -/
namespace Go.Proofs.YtgpgmmkkmoecmaaGreatDoor
open Go.RowKit

theorem bcell {W w1 : World} (hb : Below W.heap.size W w1) : (∀ b o, b < W.heap.size → w1.cell? ⟨b, o, none⟩ = W.cell? ⟨b, o, none⟩) :=
  fun b o h => hb.cell (p := ⟨b, o, none⟩) h
theorem below_drewN {B : Nat} {a w : World} (h : Below B a w) (n : Nat) : Below B a (w.drewN n) := ⟨h.os, h.tape, h.output, h.size, h.block⟩

theorem below_next {w w1 w2 : World} (h : Below w.heap.size w w1) (k : Below w1.heap.size w1 w2) : Below w.heap.size w w2 := h.trans (k.mono h.size)
theorem cell_at {w : World} {g : Nat} {cs : Array Value} {t : TypeId} {fr : Nat × Nat} (hg : w.heap[g]? = some (.cells cs t fr)) {i : Nat} {u : Value} (hu : cs[i]? = some u) : w.cell? ⟨g, i, none⟩ = some u := by
  simp [World.cell?, hg, hu]
theorem cell_kept {w w1 : World} (hb : Below w.heap.size w w1) {a : Addr} {u : Value} (h : w.cell? a = some u) : w1.cell? a = some u := (hb.cell (lt_of_cell h)).trans h
theorem block_kept {w w1 : World} (hb : Below w.heap.size w w1) {g : Nat} {o : Obj} (h : w.heap[g]? = some o) : w1.heap[g]? = some o := (hb.block g (Array.getElem?_eq_some_iff.1 h).1).trans h
theorem quiet_add_left {P : Program} {f : FuncId} {args : Array Value} {w : World} {a n : Nat} {v : Value}
    (h : Calls P f args (w.drewN (a + n)) fun e w' => e = .returned v ∧ w.drewN (a + n) = w') :
    Calls P f args (w.drewN (a + n)) fun e w'' => e = .returned v ∧ ∃ m, w'' = w.drewN (a + m) :=
  h.mono fun _ _ ⟨he, hm⟩ => ⟨he, n, hm.symm⟩
theorem quiet_left {P : Program} {f : FuncId} {args : Array Value} {w : World} {n : Nat} {v : Value}
    (h : Calls P f args (w.drewN n) fun e w' => e = .returned v ∧ w.drewN n = w') : Calls P f args (w.drewN n) fun e w'' => e = .returned v ∧ ∃ m, w'' = w.drewN m :=
  h.mono fun _ _ ⟨he, hm⟩ => ⟨he, n, hm.symm⟩

theorem domain_any (v : Value) (xs : List Int) (ok : Nat → Prop) (w : World) (h1 : Sl (Kd.int .i64) w ok v xs) :
    Calls Tryz.prog 22 #[v] w fun e w' => e = .returned (.bool (domainB xs)) ∧ ∃ n, w' = w.drewN n := by
  have H := h1
  obtain ⟨A, c, rfl, hc, hm, hA⟩ := h1
  by_cases h0 : 0 < xs.length
  · obtain ⟨b, o, rfl, c0⟩ := hA.num h0
    obtain ⟨b', o', he, c1⟩ := hA.num (j := xs.length - 1) (by omega)
    injection he with he
    injection he with he1 he2
    subst he1 he2
    clear hA
    simp only [Nat.add_zero] at c0
    have hs0 : IntKind.i64.wrap ((xs.length:Int) - 1) = (xs.length:Int) - 1 := IntWalk.i64_in _ (by omega)
    have hs1 : ((xs.length:Int) - 1).toNat = xs.length - 1 := by omega
    go_enter Tryz.func22, Tryz.ntmps22
    go_wp2_with (first | (go_at_call 50; refine (rising_any _ _ _ _ H).mono ?_; rintro e w' ⟨rfl, nd, rfl⟩) | (go_at_call 51; refine (small_any _ _ _ (by omega) (by omega)).mono ?_; rintro e w' ⟨rfl, rfl⟩))
    all_goals go_ret
    all_goals exact ⟨ret_bool (by simp [domainB, *]; try omega), by first | exact ⟨_, rfl⟩ | exact ⟨0, rfl⟩⟩
  · have hs : xs.length = 0 := by omega
    go_enter Tryz.func22, Tryz.ntmps22
    go_wp2
    all_goals go_ret
    all_goals exact ⟨ret_bool (by simp [domainB, *]), ⟨0, rfl⟩⟩

/-- A slice of rows of numbers. -/
abbrev kRow : Kd (List Int) := Kd.slice (Kd.int .i64) (by decide)
abbrev kRows : Kd (List (List Int)) := Kd.slice kRow (by decide)

theorem below_alloc1 (w : World) (o : Obj) : Below w.heap.size w (w.alloc o) := (Below.refl _ _).alloc (Nat.le_refl _) o

theorem Sl.drewN {α : Type} {d : Kd α} {w : World} {ok : Nat → Prop} {v : Value} {xs : List α} (hs : 0 < d.sz) (h : Sl d w ok v xs) (n : Nat) : Sl d (w.drewN n) ok v xs :=
  h.below hs (below_drewN (Below.refl _ _) n)

theorem scope_any (vD vH vS v : Value) (doms : List (List Int)) (xs : List Int) (ok : Nat → Prop) (w : World) (hD : Sl kRow w ok vD doms) (h1 : Sl (Kd.int .i64) w ok v xs) :
    Calls Tryz.prog 53 #[.agg #[vD, vH, vS], v] w fun e w' => e = .returned (.bool (scopeB doms.length xs)) ∧ Below w.heap.size w w' := by
  obtain ⟨A', c', rfl, hc', hm', hA'⟩ := hD
  have H := Sl.below (by decide) h1 (below_alloc1 w (.cells #[.slice A' doms.length c', vH, vS] 30))
  have HB := below_alloc1 w (.cells #[.slice A' doms.length c', vH, vS] 30)
  obtain ⟨A, c, rfl, hc, hm, hA⟩ := h1
  have hA := Sl.elems H
  by_cases h0 : 0 < xs.length
  · obtain ⟨b, o, rfl, c0⟩ := hA.num h0
    obtain ⟨b', o', he, c1⟩ := hA.num (j := xs.length - 1) (by omega)
    injection he with he
    injection he with he1 he2
    subst he1 he2
    simp only [Nat.add_zero] at c0
    have hs0 : IntKind.i64.wrap ((xs.length:Int) - 1) = (xs.length:Int) - 1 := IntWalk.i64_in _ (by omega)
    have hs1 : ((xs.length:Int) - 1).toNat = xs.length - 1 := by omega
    clear hA hA'
    go_enter Tryz.func53, Tryz.ntmps53
    go_wp2
    refine wp_region_quiet_lit (by kernel_rfl) (by kernel_rfl) ?_
    repeat (any_goals (first | go_big_quiet_step ((go_at_call 50; exact Calls.quiet_of (rising_any _ _ _ _ (H.drewN (by decide) _)))) | quiet_step ((go_at_call 50; exact Calls.quiet_of (rising_any _ _ _ _ (H.drewN (by decide) _)))) | (refine wpQuiet_step (fun K hK => ?_); go_simp; split <;> (refine hK _ ?_; clear hK K))))
    all_goals (refine wpQuiet_nil ?_; intro _ hw'; obtain ⟨nq, hw''⟩ := hw'; subst hw'')
    all_goals go_wp2
    all_goals go_ret
    all_goals exact ⟨ret_bool (by simp [scopeB, *]; try omega), below_drewN HB _⟩
  · have hz : decide (0 < xs.length) = false := decide_eq_false h0
    clear hA hA'
    go_enter Tryz.func53, Tryz.ntmps53
    go_wp2
    go_quiet (fail)
    go_wp2
    go_ret
    exact ⟨ret_bool (by simp only [scopeB, hz, Bool.false_and]), below_drewN HB _⟩

theorem linear_any (vs vr va : Value) (c : Con) (ok : Nat → Prop) (w : World) (h1 : Sl (Kd.int .i64) w ok vs c.scope) (h2 : Sl (Kd.int .i64) w ok va c.args) :
    Calls Tryz.prog 54 #[.agg #[.int .i64 c.kind, vs, vr, va]] w fun e w' => e = .returned (.bool (linearB c)) ∧ Below w.heap.size w w' := by
  obtain ⟨A, cp, rfl, hc, hm, hA⟩ := h1
  obtain ⟨A', c', rfl, hc', hm', hA'⟩ := h2
  have HB := below_alloc1 w (.cells #[.int .i64 c.kind, .slice A c.scope.length cp, vr, .slice A' c.args.length c'] 34)
  have H := Sl.below (v := .slice A' c.args.length c') (xs := c.args) (by decide) ⟨A', c', rfl, hc', hm', hA'⟩ HB
  have hA := Sl.elems H
  clear H hA'
  by_cases hl : c.args.length = c.scope.length + 2
  · obtain ⟨b, o, rfl, c1⟩ := hA.num (j := c.scope.length) (by omega)
    have hb : ((c.args.length : Int) != c.scope.length + 2) = false := by simp; omega
    have hlt : c.scope.length < c.args.length := by omega
    have hl' := Lib.hid hl
    clear hl
    by_cases hq1 : 0 ≤ nth 0 c.args c.scope.length
    · by_cases hq2 : nth 0 c.args c.scope.length ≤ 2
      · go_enter Tryz.func54, Tryz.ntmps54
        go_wp2
        clear c1
        go_loop [34] (fun i => ∃ k : Nat, i = .int .i64 k ∧ k ≤ c.args.length ∧ Hid (argsB c.scope.length 0 c.args = argsB c.scope.length k (c.args.drop k))) (fun i => c.args.length - (intOf i).toNat)
        case atStart => exact ⟨0, rfl, by omega, Lib.hid rfl⟩
        case round =>
          obtain ⟨k, rfl, hk, H⟩ := hrel
          by_cases hkl : k < c.args.length
          · obtain ⟨b', o', he, c2⟩ := hA.num hkl
            injection he with he
            injection he with he1 he2
            subst he1 he2
            have H' : Hid (argsB c.scope.length k (c.args.drop k) = (!(decide (k < c.scope.length) && decide (nth 0 c.args k = 0)) && smallB (nth 0 c.args k) 1000000 && argsB c.scope.length (k + 1) (c.args.drop (k + 1)))) := by
              rw [drop_cons c.args 0 k hkl, argsB]; exact Lib.hid rfl
            clear hA
            by_cases hz : k < c.scope.length ∧ nth 0 c.args k = 0
            · obtain ⟨hz1, hz2⟩ := hz
              have hz3 : (nth 0 c.args k == 0) = true := by simp [hz2]
              have hz2 := Lib.hid hz2
              go_wp2_with (go_at_call 51; refine (small_any _ _ _ (by omega) (by omega)).mono ?_; rintro e w' ⟨rfl, rfl⟩)
              go_ret
              exact ⟨ret_bool (by unfold linearB; rw [H.out, H'.out, hz2.out]; simp [hz1]), HB⟩
            · have hz4 : ¬ (k < c.scope.length ∧ (nth 0 c.args k == 0) = true) := by simpa using hz
              have hz' : Hid ((!(decide (k < c.scope.length) && decide (nth 0 c.args k = 0))) = true) := by
                have : (decide (k < c.scope.length) && decide (nth 0 c.args k = 0)) = false := by
                  rw [Bool.and_eq_false_iff, decide_eq_false_iff_not, decide_eq_false_iff_not]; exact (Classical.not_and_iff_not_or_not.1 hz)
                rw [this]; exact Lib.hid rfl
              clear hz
              by_cases hz1 : k < c.scope.length
              · have hz5 : (nth 0 c.args k == 0) = false := by simpa [hz1] using hz4
                clear hz4
                cases hs : smallB (nth 0 c.args k) 1000000
                · go_wp2_with (go_at_call 51; refine (small_any _ _ _ (by omega) (by omega)).mono ?_; rintro e w' ⟨rfl, rfl⟩)
                  go_ret
                  exact ⟨ret_bool (by unfold linearB; rw [H.out, H'.out, hs]; simp), HB⟩
                · go_wp2_with (go_at_call 51; refine (small_any _ _ _ (by omega) (by omega)).mono ?_; rintro e w' ⟨rfl, rfl⟩)
                  go_round
                  case rel => exact ⟨k + 1, by go_num, by omega, Lib.hid (by rw [H.out, H'.out, hz'.out, hs]; simp)⟩
                  case measure => simp [intOf]; omega
              · clear hz4
                cases hs : smallB (nth 0 c.args k) 1000000
                · go_wp2_with (go_at_call 51; refine (small_any _ _ _ (by omega) (by omega)).mono ?_; rintro e w' ⟨rfl, rfl⟩)
                  go_ret
                  exact ⟨ret_bool (by unfold linearB; rw [H.out, H'.out, hs]; simp), HB⟩
                · go_wp2_with (go_at_call 51; refine (small_any _ _ _ (by omega) (by omega)).mono ?_; rintro e w' ⟨rfl, rfl⟩)
                  go_round
                  case rel => exact ⟨k + 1, by go_num, by omega, Lib.hid (by rw [H.out, H'.out, hz'.out, hs]; simp)⟩
                  case measure => simp [intOf]; omega
          · go_wp2
            go_ret
            exact ⟨ret_bool (by unfold linearB; rw [H.out, List.drop_eq_nil_of_le (by omega)]; simp [argsB, hl'.out, hq1, hq2]), HB⟩
      · go_enter Tryz.func54, Tryz.ntmps54
        go_wp2
        go_ret
        exact ⟨ret_bool (by simp [linearB]; omega), HB⟩
    · go_enter Tryz.func54, Tryz.ntmps54
      go_wp2
      go_ret
      exact ⟨ret_bool (by simp [linearB]; omega), HB⟩
  · have hb : ((c.args.length : Int) != c.scope.length + 2) = true := by simp; omega
    go_enter Tryz.func54, Tryz.ntmps54
    go_wp2
    go_ret
    exact ⟨ret_bool (by simp [linearB, hl]), HB⟩
end Go.Proofs.YtgpgmmkkmoecmaaGreatDoor

/- A strings.Builder embedded in inst's printer: what WriteString, WriteByte and String do to it. (Turned from the worked proofs of the shelf, at the printer's own type.) -/
namespace Go.Proofs.YtgpgmmkkmoecmaaGreatDoor
open Go.RowKit

/-- The printer in block b holds the bytes l. -/
def Bld (b : Nat) (l : List UInt8) (w : World) : Prop :=
  ∃ p v, (p = .pointer none ∨ p = .pointer (some ⟨b, 0, none⟩)) ∧ w.heap[b]? = some (.cells #[p, v] 65 (0, 0)) ∧ w.ownsRow b 5 1 v l.length (Lib.byteCells l) ∧ v.ownBlock ≠ some b ∧ (l = [] → v = .slice none 0 0)
/-- What a call on the printer in block b keeps. -/
structure Kep (b : Nat) (w w' : World) : Prop where
  below : Below b w w'
  others : Lib.OthersKept 5 (some b) w w'
theorem Kep.refl (b : Nat) (w : World) : Kep b w w := ⟨Below.refl _ _, Lib.OthersKept.refl _ _ _⟩
theorem Kep.trans {b : Nat} {w w1 w2 : World} (h : Kep b w w1) (k : Kep b w1 w2) : Kep b w w2 := ⟨h.below.trans k.below, h.others.trans k.others⟩

set_option maxRecDepth 100000 in
theorem copyCheck_used (b : Nat) (w : World) (h0 : w.cell? ⟨b, 0, none⟩ = some (.pointer (some ⟨b, 0, none⟩))) :
    Calls Tryz.prog 60 #[.pointer (some ⟨b, 0, none⟩)] w fun e w' => e = .returned (.tuple #[]) ∧ w' = w := by
  obtain ⟨j, hj, _⟩ := Option.map_eq_some_iff.1 (show (Tryz.prog.info? 63).map (·.size) = some 2 by kernel_rfl)
  go_enter Tryz.func60, Tryz.ntmps60
  go_wp2
  rw [Lib.run_neq_ptr_same w _ Tryz.underlying60 hj]
  go_wp2
  go_end0
  exact ⟨rfl, rfl⟩
set_option maxRecDepth 100000 in
theorem copyCheck_fresh (b : Nat) (w : World) (h0 : w.cell? ⟨b, 0, none⟩ = some (.pointer none)) (hsh : w.shape? b = some (65, 2)) (hfz : w.frozen? ⟨b, 0, none⟩ = false) :
    Calls Tryz.prog 60 #[.pointer (some ⟨b, 0, none⟩)] w fun e w' => e = .returned (.tuple #[]) ∧ w' = w.setCell ⟨b, 0, none⟩ (.pointer (some ⟨b, 0, none⟩)) := by
  obtain ⟨j, hj, hjs⟩ := Option.map_eq_some_iff.1 (show (Tryz.prog.info? 63).map (·.size) = some 2 by kernel_rfl)
  go_enter Tryz.func60, Tryz.ntmps60
  go_wp2
  rw [Lib.run_to_unsafe w ⟨b, 0, none⟩ Tryz.underlying60 Tryz.underlying156 hj (by rw [hjs]; decide) hsh (Nat.zero_lt_succ 1)]
  simp only [Result.andThen]
  rw [Oper.upon_value]
  go_wp2
  rw [run_callFunc_extern Tryz.func92 (by kernel_rfl) (by kernel_rfl) (by kernel_rfl) (e := Extern.AbiNoEscape.same) (by kernel_rfl)]
  rw [Lib.run_noEscape]
  simp only [Result.andThen]
  rw [Oper.upon_value]
  go_wp2
  rw [Lib.run_from_unsafe w ⟨b, 0, none⟩ Tryz.underlying156 Tryz.underlying60 hj hsh (by kernel_rfl)]
  simp only [Result.andThen]
  rw [Oper.upon_value]
  go_wp2
  go_end0
  exact ⟨rfl, rfl⟩
theorem byteCells_append (l m : List UInt8) : Lib.byteCells (l ++ m) = Lib.byteCells l ++ Lib.byteCells m := by simp [Lib.byteCells]
theorem lt_of_block {w : World} {b : Nat} {o : Obj} (h : w.heap[b]? = some o) : b < w.heap.size := (Array.getElem?_eq_some_iff.1 h).1
/-- Behind copyCheck the printer is used. -/
theorem copyCheck_any (b : Nat) (l : List UInt8) (w : World) (h : Bld b l w) :
    Calls Tryz.prog 60 #[.pointer (some ⟨b, 0, none⟩)] w fun e w' => e = .returned (.tuple #[]) ∧
      (∃ v, w'.heap[b]? = some (.cells #[.pointer (some ⟨b, 0, none⟩), v] 65 (0, 0)) ∧ w'.ownsRow b 5 1 v l.length (Lib.byteCells l) ∧ v.ownBlock ≠ some b ∧ (l = [] → v = .slice none 0 0)) ∧ Kep b w w' := by
  obtain ⟨p, v, hp, hbk, hown, hne, h0⟩ := h
  rcases hp with rfl | rfl
  · refine (copyCheck_fresh b w (cell_at hbk (i := 0) rfl) (by simp [World.shape?, hbk]) (Lib.frozen_of_heap hbk 0)).mono ?_
    rintro e w' ⟨rfl, rfl⟩
    have hb' : (w.setCell ⟨b, 0, none⟩ (.pointer (some ⟨b, 0, none⟩))).heap[b]? = some (.cells #[.pointer (some ⟨b, 0, none⟩), v] 65 (0, 0)) := by
      simp [World.setCell, Array.getElem?_modify, hbk]
    have hg : w.grownBy (w.setCell ⟨b, 0, none⟩ (.pointer (some ⟨b, 0, none⟩))) (some b) :=
      ⟨rfl, rfl, rfl, by simp [World.setCell], fun k _ hk => Below.heap_setCell _ _ _ _ (fun e => hk (by rw [e]))⟩
    exact ⟨rfl, ⟨v, hb', hown.kept hg (.inr hne), hne, h0⟩, (Below.refl b w).setCell (p := ⟨b, 0, none⟩) (Nat.le_refl _) _, (Lib.OthersKept.refl _ _ w).setCell ⟨b, 0, none⟩ rfl _⟩
  · refine (copyCheck_used b w (cell_at hbk (i := 0) rfl)).mono ?_
    rintro e w' ⟨rfl, rfl⟩
    exact ⟨rfl, ⟨v, hbk, hown, hne, h0⟩, Kep.refl _ _⟩

set_option maxHeartbeats 1000000 in
set_option maxRecDepth 100000 in
theorem writeString_any (b : Nat) (l : List UInt8) (s : ByteArray) (w : World) (h : Bld b l w) (hlen : l.length + s.size ≤ 140737488355328) :
    Calls Tryz.prog 29 #[.pointer (some ⟨b, 0, none⟩), .string s] w fun e w' => e = .returned (.tuple #[.int .i64 s.size, .nilIface]) ∧ Bld b (l ++ s.data.toList) w' ∧ Kep b w w' := by
  obtain ⟨i0, hi, hz0, hz1, hz2⟩ := info_parts (show (Tryz.prog.info? 5).map (fun i => (i.zero, i.size, i.bytes)) = some (some (.int .u8 0), 1, 1) by kernel_rfl)
  have hbw : b < w.heap.size := by obtain ⟨p, v, _, hbk, _⟩ := h; exact lt_of_block hbk
  go_enter Tryz.func29, Tryz.ntmps29
  go_wp2_with (go_at_call 60; refine (copyCheck_any b l _ h).mono ?_)
  rintro e w1 ⟨rfl, ⟨v, hbk, hown, hne, h0⟩, hk1⟩
  have hsz := hk1.below.size
  have K1 := Lib.hid hk1
  clear hk1
  have c0 : w1.cell? ⟨b, 0, none⟩ = some (.pointer (some ⟨b, 0, none⟩)) := cell_at hbk (i := 0) rfl
  have c1 : w1.cell? ⟨b, 1, none⟩ = some v := cell_at hbk (i := 1) rfl
  have H0 := Lib.hid h0
  clear h0
  go_wp2_with (at_builtin; refine Lib.wpList_append_own_string _ rfl _ _ 61 9 rfl b 5 i0 Tryz.underlying61 Tryz.underlying9 hi hz0 hz1 hz2 _ _ _ rfl hown s rfl ?c3 ?c4 ?c5 ?_)
  case c3 => unfold maxLen; omega
  case c4 => omega
  case c5 => omega
  intro v' w2 hown' hgrow hnil
  have Hn := Lib.hid hnil
  clear hnil
  have hlt : b < w1.heap.size := lt_of_block hbk
  have hb2 : w2.heap[b]? = some (.cells #[.pointer (some ⟨b, 0, none⟩), v] 65 (0, 0)) := by
    rw [hgrow.block b hlt (fun e => hne e.symm)]
    exact hbk
  have d0 : w2.cell? ⟨b, 0, none⟩ = some (.pointer (some ⟨b, 0, none⟩)) := cell_at hb2 (i := 0) rfl
  have d1 : w2.cell? ⟨b, 1, none⟩ = some v := cell_at hb2 (i := 1) rfl
  have f1 : w2.frozen? ⟨b, 1, none⟩ = false := Lib.frozen_of_heap hb2 1
  obtain ⟨ao, n', cap, rfl⟩ : ∃ ao n' cap, v' = .slice ao n' cap := by
    rcases hown'.2 with ⟨hv, _⟩ | ⟨g, cap, cur, hv, _⟩
    · exact ⟨_, _, _, hv⟩
    · exact ⟨_, _, _, hv⟩
  have hkind := Lib.hid (Lib.ownsRow_kind hown)
  have HG := Lib.hid hgrow
  have HO := Lib.hid hown'
  have HW := Lib.hid hown
  clear hgrow hown' hown
  go_wp2
  go_ret2
  have hne' : (Value.slice ao n' cap).ownBlock ≠ some b := by
    intro he
    obtain ⟨c', fz', hc⟩ := Lib.ownsRow_kind HO.out _ he
    rw [hb2] at hc
    injection hc with hc
    injection hc with _ hc _
    exact absurd hc (by decide)
  have hgs : w2.grownBy (w2.setCell ⟨b, 1, none⟩ (.slice ao n' cap)) (some b) :=
    ⟨rfl, rfl, rfl, by simp [World.setCell], fun k _ hk => Below.heap_setCell _ _ _ _ (fun e => hk (by rw [e]))⟩
  refine ⟨rfl, ⟨_, .slice ao n' cap, .inr rfl, ?_, ?_, hne', ?_⟩, ⟨?_, ?_⟩⟩
  · simp [World.setCell, Array.getElem?_modify, hb2]
  · have := HO.out.kept hgs (.inr hne')
    rw [List.length_append, byteCells_append]
    exact this
  · intro hl
    obtain ⟨hl1, hl2⟩ := List.append_eq_nil_iff.1 hl
    exact Hn.out.2 ⟨H0.out hl1, by have := congrArg List.length hl2; simpa using this⟩
  · exact (K1.out.below.grown HG.out (by omega) (fun k hk => (HW.out.lt k hk).1)).setCell (p := ⟨b, 1, none⟩) (Nat.le_refl _) _
  · exact (K1.out.others.grown HG.out hkind.out).setCell ⟨b, 1, none⟩ rfl _
set_option maxHeartbeats 1000000 in
set_option maxRecDepth 100000 in
theorem writeByte_any (b : Nat) (l : List UInt8) (c : UInt8) (w : World) (h : Bld b l w) (hlen : l.length + 1 ≤ 140737488355328) :
    Calls Tryz.prog 62 #[.pointer (some ⟨b, 0, none⟩), .int .u8 c.toNat] w fun e w' => e = .returned .nilIface ∧ Bld b (l ++ [c]) w' ∧ Kep b w w' := by
  obtain ⟨i0, hi, hz0, hz1, hz2⟩ := info_parts (show (Tryz.prog.info? 5).map (fun i => (i.zero, i.size, i.bytes)) = some (some (.int .u8 0), 1, 1) by kernel_rfl)
  have hbw : b < w.heap.size := by obtain ⟨p, v, _, hbk, _⟩ := h; exact lt_of_block hbk
  go_enter Tryz.func62, Tryz.ntmps62
  go_wp2_with (go_at_call 60; refine (copyCheck_any b l _ h).mono ?_)
  rintro e w1 ⟨rfl, ⟨v, hbk, hown, hne, h0⟩, hk1⟩
  have hsz := hk1.below.size
  have K1 := Lib.hid hk1
  clear hk1
  have c0 : w1.cell? ⟨b, 0, none⟩ = some (.pointer (some ⟨b, 0, none⟩)) := cell_at hbk (i := 0) rfl
  have c1 : w1.cell? ⟨b, 1, none⟩ = some v := cell_at hbk (i := 1) rfl
  have H0 := Lib.hid h0
  clear h0
  go_wp2_with (at_builtin; refine wpList_append_own _ rfl _ _ 61 rfl b 5 i0 (.int .u8 0) 1 1 Tryz.underlying61 hi hz0 hz1 hz2 rfl (by decide) _ _ _ rfl (hown.alloc _) ⟨w1.heap.size, 0, none⟩ 1 1 [.int .u8 c.toNat] rfl rfl ?c1 ?c2 ?c3 ?c4 ?c5 ?_)
  case c1 =>
    intro j u hj
    match j, hj with
    | 0, hj => simp at hj; subst hj; simp [Addr.add]
  case c2 => intro u hu; simp at hu; subst hu; rfl
  case c3 => unfold maxLen; omega
  case c4 => omega
  case c5 => simp; omega
  intro v' w2 hown' hgrow hnil
  have Hn := Lib.hid hnil
  clear hnil
  have hlt : b < w1.heap.size := lt_of_block hbk
  have hb2 : w2.heap[b]? = some (.cells #[.pointer (some ⟨b, 0, none⟩), v] 65 (0, 0)) := by
    rw [hgrow.block b (by simp; omega) (fun e => hne e.symm)]
    exact (Below.heap_alloc w1 _ b hlt).trans hbk
  have d0 : w2.cell? ⟨b, 0, none⟩ = some (.pointer (some ⟨b, 0, none⟩)) := cell_at hb2 (i := 0) rfl
  have d1 : w2.cell? ⟨b, 1, none⟩ = some v := cell_at hb2 (i := 1) rfl
  have f1 : w2.frozen? ⟨b, 1, none⟩ = false := Lib.frozen_of_heap hb2 1
  obtain ⟨ao, n', cap, rfl⟩ : ∃ ao n' cap, v' = .slice ao n' cap := by
    rcases hown'.2 with ⟨hv, _⟩ | ⟨g, cap, cur, hv, _⟩
    · exact ⟨_, _, _, hv⟩
    · exact ⟨_, _, _, hv⟩
  have hkind := Lib.hid (Lib.ownsRow_kind (hown.alloc (.cells #[.int .u8 c.toNat] 5)))
  have HG := Lib.hid hgrow
  have HO := Lib.hid hown'
  have HW := Lib.hid hown
  clear hgrow hown' hown
  go_wp2
  go_ret
  have hne' : (Value.slice ao n' cap).ownBlock ≠ some b := by
    intro he
    obtain ⟨c', fz', hc⟩ := Lib.ownsRow_kind HO.out _ he
    rw [hb2] at hc
    injection hc with hc
    injection hc with _ hc _
    exact absurd hc (by decide)
  have hgs : w2.grownBy (w2.setCell ⟨b, 1, none⟩ (.slice ao n' cap)) (some b) :=
    ⟨rfl, rfl, rfl, by simp [World.setCell], fun k _ hk => Below.heap_setCell _ _ _ _ (fun e => hk (by rw [e]))⟩
  refine ⟨rfl, ⟨_, .slice ao n' cap, .inr rfl, ?_, ?_, hne', ?_⟩, ⟨?_, ?_⟩⟩
  · simp [World.setCell, Array.getElem?_modify, hb2]
  · have := HO.out.kept hgs (.inr hne')
    rw [List.length_append, byteCells_append]
    exact this
  · intro hl
    simp at hl
  · exact ((K1.out.below.alloc (by omega) _).grown HG.out (by simp; omega) (fun k hk => (HW.out.lt k hk).1)).setCell (p := ⟨b, 1, none⟩) (Nat.le_refl _) _
  · exact ((K1.out.others.alloc _).grown HG.out hkind.out).setCell ⟨b, 1, none⟩ rfl _

set_option maxHeartbeats 1000000 in
set_option maxRecDepth 100000 in
theorem string_none (b : Nat) (p : Value) (w : World) (hbk : w.heap[b]? = some (.cells #[p, .slice none 0 0] 65 (0, 0))) :
    Calls Tryz.prog 33 #[.pointer (some ⟨b, 0, none⟩)] w fun e w' => e = .returned (.string ⟨#[]⟩) ∧ Below b w w' := by
  have c1 : w.drew.cell? ⟨b, 1, none⟩ = some (.slice none 0 0) := cell_at (w := w.drew) hbk (i := 1) rfl
  have hSD : (Builtin.unsafeSliceData_ #[61] 120 #[.slice none 0 0]).run Tryz.prog w.drew = .ok (.pointer none) w.drew := rfl
  have hUS : ∀ W : World, (Builtin.unsafeString_ #[120, 3] 9 #[.pointer none, .int .i64 0]).run Tryz.prog W = .ok (.string ⟨#[]⟩) W := fun W => by kernel_rfl
  go_enter Tryz.func33, Tryz.ntmps33
  go_wp2
  go_region
  all_goals (go_wp2; go_ret; exact ⟨rfl, Below.drew (Below.refl b w)⟩)
set_option maxHeartbeats 1000000 in
set_option maxRecDepth 100000 in
theorem string_some (b g cap : Nat) (p : Value) (cur : Array Value) (l : List UInt8) (w : World) (h0 : l ≠ []) (hbk : w.heap[b]? = some (.cells #[p, .slice (some ⟨g, 0, none⟩) l.length cap] 65 (0, 0)))
    (hbg : b ≤ g) (hg : w.heap[g]? = some (.cells cur 5 (0, 0))) (hnc : l.length ≤ cap) (hcm : cap ≤ maxLen) (hcs : cur.size = cap * 1) (htake : cur.toList.take (l.length * 1) = Lib.byteCells l) :
    Calls Tryz.prog 33 #[.pointer (some ⟨b, 0, none⟩)] w fun e w' => e = .returned (.string ⟨l.toArray⟩) ∧ Below b w w' := by
  have hl0 : l.length ≠ 0 := by simpa using h0
  have c1 : w.drew.cell? ⟨b, 1, none⟩ = some (.slice (some ⟨g, 0, none⟩) l.length cap) := cell_at (w := w.drew) hbk (i := 1) rfl
  have hSD : (Builtin.unsafeSliceData_ #[61] 120 #[.slice (some ⟨g, 0, none⟩) l.length cap]).run Tryz.prog w.drew = .ok (.pointer (some ⟨g, 0, none⟩)) w.drew :=
    Lib.run_unsafeSliceData_row _ _ _ _ _ _ (by omega)
  have hUS : (Builtin.unsafeString_ #[120, 3] 9 #[.pointer (some ⟨g, 0, none⟩), .int .i64 l.length]).run Tryz.prog w.drew = .ok (.string ⟨l.toArray⟩) (w.drew.freeze ⟨g, 0, none⟩ l.length) := by
    refine Lib.run_unsafeString_row w.drew 120 3 9 5 Tryz.underlying120 (by kernel_rfl) g cur.size (by have hg' : w.drew.heap[g]? = some (.cells cur 5 (0, 0)) := hg; simp [World.shape?, hg']) l h0 (by omega) (by unfold maxLen at hcm; omega) ?_
    intro j x hx
    have hown : w.ownsRow b 5 1 (.slice (some ⟨g, 0, none⟩) l.length cap) l.length (Lib.byteCells l) := ⟨by simp [Lib.byteCells], .inr ⟨g, cap, cur, rfl, hbg, hg, hnc, hcm, hcs, htake⟩⟩
    have := hown.cells (g := g) rfl j (.int .u8 x.toNat) (by simp [Lib.byteCells, hx])
    exact this
  go_enter Tryz.func33, Tryz.ntmps33
  go_wp2
  go_region
  all_goals (go_wp2; go_ret; exact ⟨rfl, Lib.below_freeze (Below.drew (Below.refl b w)) (p := ⟨g, 0, none⟩) hbg _⟩)
theorem string_any (b : Nat) (l : List UInt8) (w : World) (h : Bld b l w) :
    Calls Tryz.prog 33 #[.pointer (some ⟨b, 0, none⟩)] w fun e w' => e = .returned (.string ⟨l.toArray⟩) ∧ Below b w w' := by
  obtain ⟨p, v, _, hbk, hown, hne, h0⟩ := h
  cases l with
  | nil =>
    obtain rfl := h0 rfl
    exact string_none b p w hbk
  | cons x r =>
    rcases hown.2 with ⟨_, hz⟩ | ⟨g, cap, cur, rfl, hbg, hg, hnc, hcm, hcs, htake⟩
    · simp at hz
    · exact string_some b g cap p cur (x :: r) w (by simp) hbk hbg hg hnc hcm hcs htake
end Go.Proofs.YtgpgmmkkmoecmaaGreatDoor

/- The plain functions that the program computes, part 3: an instance as a text. No program, no memory. -/
namespace Go.Proofs.YtgpgmmkkmoecmaaGreatDoor

/-- Numbers, each with a space ahead. -/
def numsP (l : List Int) : List UInt8 := l.flatMap fun n => 32 :: Lib.itoa n
/-- The words of hard constraints; of how a sum is held against a number. -/
def wordsT : List (List UInt8) := [[], [116, 97, 98, 108, 101], [102, 111, 114, 98, 105, 100], [100, 105, 102, 102], [101, 113, 117, 97, 108], [114, 105, 115, 105, 110, 103], [108, 105, 110, 101, 97, 114]]
def howsT : List (List UInt8) := [[101, 113], [108, 101], [110, 101]]
def varT : List UInt8 := [118, 97, 114]
def softT : List UInt8 := [115, 111, 102, 116]
/-- A comma, but ahead of the first. -/
def commaP (i : Nat) : List UInt8 := if 0 < i then [44] else []
def rowsP : Nat → List (List Int) → List UInt8
  | _, [] => []
  | i, t :: r => commaP i ++ numsP t ++ rowsP (i + 1) r
def linP : Nat → List Int → List Int → List UInt8
  | i, a :: aa, v :: vs => commaP i ++ numsP [a, v] ++ linP (i + 1) aa vs
  | _, _, _ => []
def hardP (c : Con) : List UInt8 :=
  nth [] wordsT c.kind.toNat ++
    if c.kind = 6 then linP 0 c.args c.scope ++ ([58, 32] ++ nth [] howsT (nth 0 c.args c.scope.length).toNat) ++ numsP [nth 0 c.args (c.scope.length + 1)]
    else numsP c.scope ++ if 2 < c.kind then [] else [58] ++ rowsP 0 c.rows
def costsP : List (List Int) → List Int → List UInt8
  | t :: r, c :: cs => [44] ++ numsP t ++ numsP [c] ++ costsP r cs
  | _, _ => []
def softP (s : Sft) : List UInt8 := softT ++ numsP s.scope ++ [58] ++ numsP [s.dflt] ++ costsP s.rows s.costs
def endT : List UInt8 := [59, 10]
def domsP (l : List (List Int)) : List UInt8 := l.flatMap fun d => varT ++ numsP d ++ endT
def hardsP (l : List Con) : List UInt8 := l.flatMap fun c => hardP c ++ endT
def softsP (l : List Sft) : List UInt8 := l.flatMap fun s => softP s ++ endT
def printP (x : Ins) : List UInt8 := if rightB x = true then domsP x.doms ++ hardsP x.hard ++ softsP x.soft else []

/-- A number that the texts may tell. -/
def Fit (n : Int) : Prop := -1000000000000 ≤ n ∧ n ≤ 1000000000000
def Fits (l : List Int) : Prop := ∀ k, k < l.length → Fit (nth 0 l k)

theorem numsP_snoc (l : List Int) (k : Nat) (h : k < l.length) : numsP (l.take (k + 1)) = numsP (l.take k) ++ (32 :: Lib.itoa (nth 0 l k)) := by
  have e : l.take (k + 1) = l.take k ++ [nth 0 l k] := by
    rw [List.take_add_one, nth_get 0 l k h]; rfl
  rw [e]; simp [numsP]
theorem numsP_take_le (l : List Int) (k : Nat) : (numsP (l.take k)).length ≤ (numsP l).length := by
  have : numsP l = numsP (l.take k) ++ numsP (l.drop k) := by
    unfold numsP; rw [← List.flatMap_append, List.take_append_drop]
  rw [this]; simp

theorem take_snoc {α : Type} (z : α) (l : List α) (k : Nat) (h : k < l.length) : l.take (k + 1) = l.take k ++ [nth z l k] := by
  rw [List.take_add_one, nth_get z l k h]; rfl
theorem rowsP_snoc : ∀ (l : List (List Int)) (i : Nat) (t : List Int), rowsP i (l ++ [t]) = rowsP i l ++ (commaP (i + l.length) ++ numsP t)
  | [], i, t => by simp [rowsP]
  | a :: l, i, t => by
    simp only [List.cons_append, rowsP, rowsP_snoc l (i + 1) t, List.length_cons, List.append_assoc]
    rw [show i + 1 + l.length = i + (l.length + 1) from by omega]
theorem rowsP_step (l : List (List Int)) (k : Nat) (h : k < l.length) : rowsP 0 (l.take (k + 1)) = rowsP 0 (l.take k) ++ (commaP k ++ numsP (nth [] l k)) := by
  rw [take_snoc [] l k h, rowsP_snoc, List.length_take, Nat.min_eq_left (by omega), Nat.zero_add]
theorem rowsP_append (i : Nat) : ∀ (l m : List (List Int)), ∃ r, rowsP i (l ++ m) = rowsP i l ++ r := by
  intro l m
  induction l generalizing i with
  | nil => exact ⟨_, rfl⟩
  | cons a l ih => obtain ⟨r, hr⟩ := ih (i + 1); exact ⟨r, by simp only [List.cons_append, rowsP, hr, List.append_assoc]⟩
theorem rowsP_take_le (l : List (List Int)) (k : Nat) : (rowsP 0 (l.take k)).length ≤ (rowsP 0 l).length := by
  obtain ⟨r, hr⟩ := rowsP_append 0 (l.take k) (l.drop k)
  rw [List.take_append_drop] at hr
  rw [hr, List.length_append]; omega
theorem linP_snoc : ∀ (aa vs : List Int) (i : Nat) (a v : Int), aa.length = vs.length → linP i (aa ++ [a]) (vs ++ [v]) = linP i aa vs ++ (commaP (i + vs.length) ++ numsP [a, v])
  | [], [], i, a, v, _ => by simp [linP]
  | a0 :: aa, v0 :: vs, i, a, v, h => by
    simp only [List.length_cons, Nat.add_right_cancel_iff] at h
    simp only [List.cons_append, linP, linP_snoc aa vs (i + 1) a v h, List.length_cons, List.append_assoc]
    rw [show i + 1 + vs.length = i + (vs.length + 1) from by omega]
theorem linP_step (aa vs : List Int) (k : Nat) (h : k < vs.length) (h' : k < aa.length) : linP 0 (aa.take (k + 1)) (vs.take (k + 1)) = linP 0 (aa.take k) (vs.take k) ++ (commaP k ++ numsP [nth 0 aa k, nth 0 vs k]) := by
  rw [take_snoc 0 aa k h', take_snoc 0 vs k h, linP_snoc _ _ _ _ _ (by rw [List.length_take, List.length_take]; omega), List.length_take, Nat.min_eq_left (by omega), Nat.zero_add]
theorem linP_all : ∀ (aa vs : List Int) (i : Nat), linP i (aa.take vs.length) vs = linP i aa vs
  | [], vs, i => by simp
  | a :: aa, [], i => by simp [linP]
  | a :: aa, v :: vs, i => by simp only [List.length_cons, List.take_succ_cons, linP, linP_all aa vs (i + 1)]
theorem linP_append (i : Nat) : ∀ (aa vs bs us : List Int), aa.length = vs.length → ∃ r, linP i (aa ++ bs) (vs ++ us) = linP i aa vs ++ r := by
  intro aa
  induction aa generalizing i with
  | nil => intro vs bs us h; cases vs with
    | nil => exact ⟨_, rfl⟩
    | cons v vs => simp at h
  | cons a aa ih => intro vs bs us h; cases vs with
    | nil => simp at h
    | cons v vs =>
      simp only [List.length_cons, Nat.add_right_cancel_iff] at h
      obtain ⟨r, hr⟩ := ih (i + 1) vs bs us h
      exact ⟨r, by simp only [List.cons_append, linP, hr, List.append_assoc]⟩
theorem linP_take_le (aa vs : List Int) (k : Nat) (h : k ≤ vs.length) (h' : vs.length ≤ aa.length) : (linP 0 (aa.take k) (vs.take k)).length ≤ (linP 0 aa vs).length := by
  obtain ⟨r, hr⟩ := linP_append 0 (aa.take k) (vs.take k) (aa.drop k) (vs.drop k) (by rw [List.length_take, List.length_take]; omega)
  rw [List.take_append_drop, List.take_append_drop] at hr
  rw [hr, List.length_append]; omega
theorem numsP_two (a v : Int) : numsP [a, v] = (32 :: Lib.itoa a) ++ (32 :: Lib.itoa v) := by simp [numsP]
theorem fits_two {a v : Int} (h : Fit a) (h' : Fit v) : Fits [a, v] := by
  intro k hk
  match k, hk with
  | 0, _ => exact h
  | 1, _ => exact h'
theorem fits_one {a : Int} (h : Fit a) : Fits [a] := by
  intro k hk
  match k, hk with
  | 0, _ => exact h

theorem costsP_snoc : ∀ (l : List (List Int)) (cs : List Int) (t : List Int) (c : Int), l.length = cs.length → costsP (l ++ [t]) (cs ++ [c]) = costsP l cs ++ ([44] ++ (numsP t ++ numsP [c]))
  | [], [], t, c, _ => by simp [costsP]
  | a :: l, b :: cs, t, c, h => by
    simp only [List.length_cons, Nat.add_right_cancel_iff] at h
    simp only [List.cons_append, costsP, costsP_snoc l cs t c h, List.append_assoc, List.nil_append]
theorem costsP_step (l : List (List Int)) (cs : List Int) (k : Nat) (h : k < l.length) (h' : l.length = cs.length) : costsP (l.take (k + 1)) (cs.take (k + 1)) = costsP (l.take k) (cs.take k) ++ ([44] ++ (numsP (nth [] l k) ++ numsP [nth 0 cs k])) := by
  rw [take_snoc [] l k h, take_snoc 0 cs k (by omega), costsP_snoc _ _ _ _ (by rw [List.length_take, List.length_take]; omega)]
theorem costsP_append : ∀ (l m : List (List Int)) (cs ds : List Int), l.length = cs.length → ∃ r, costsP (l ++ m) (cs ++ ds) = costsP l cs ++ r
  | [], m, [], ds, _ => ⟨_, rfl⟩
  | a :: l, m, b :: cs, ds, h => by
    simp only [List.length_cons, Nat.add_right_cancel_iff] at h
    obtain ⟨r, hr⟩ := costsP_append l m cs ds h
    exact ⟨r, by simp only [List.cons_append, costsP, hr, List.append_assoc, List.nil_append]⟩
theorem costsP_take_le (l : List (List Int)) (cs : List Int) (k : Nat) (h' : l.length = cs.length) : (costsP (l.take k) (cs.take k)).length ≤ (costsP l cs).length := by
  obtain ⟨r, hr⟩ := costsP_append (l.take k) (l.drop k) (cs.take k) (cs.drop k) (by rw [List.length_take, List.length_take]; omega)
  rw [List.take_append_drop, List.take_append_drop] at hr
  rw [hr, List.length_append]; omega
end Go.Proofs.YtgpgmmkkmoecmaaGreatDoor

/- What the printer's methods write. -/
namespace Go.Proofs.YtgpgmmkkmoecmaaGreatDoor
open Go.RowKit

/-- What the package's variables hold. -/
structure Env (w : World) : Prop where
  words : ∃ t fr, w.heap[0]? = some (.cells (wordsT.map fun l => Value.string ⟨l.toArray⟩).toArray t fr)
  hows : ∃ t fr, w.heap[1]? = some (.cells (howsT.map fun l => Value.string ⟨l.toArray⟩).toArray t fr)
  pow : Lib.TabIs Tryz.prog w "internal/strconv.uint64pow10" .u64 Lib.pow10Tab
  syn : ∃ tp p, w.var? Tryz.prog "strconv.ErrSyntax" = some #[.iface tp p]
  rng : ∃ tp p, w.var? Tryz.prog "strconv.ErrRange" = some #[.iface tp p]
  size : 8 ≤ w.heap.size
theorem var_below {P : Program} {w w' : World} {B : Nat} {name : String} {g : Nat} (hg : P.globalNamed name = some g) (hB : g < B) (hb : Below B w w') : w'.var? P name = w.var? P name := by
  simp only [World.var?, hg, Option.bind_some]
  rw [hb.block g hB]
theorem Env.below {w w' : World} {B : Nat} (h : Env w) (hb : Below B w w') (hB : 8 ≤ B) : Env w' where
  words := by obtain ⟨t, fr, h1⟩ := h.words; exact ⟨t, fr, (hb.block _ (by omega)).trans h1⟩
  hows := by obtain ⟨t, fr, h1⟩ := h.hows; exact ⟨t, fr, (hb.block _ (by omega)).trans h1⟩
  pow := (var_below (g := 2) (by kernel_rfl) (by omega) hb).trans h.pow
  syn := by obtain ⟨tp, p, h1⟩ := h.syn; exact ⟨tp, p, (var_below (g := 6) (by kernel_rfl) (by omega) hb).trans h1⟩
  rng := by obtain ⟨tp, p, h1⟩ := h.rng; exact ⟨tp, p, (var_below (g := 7) (by kernel_rfl) (by omega) hb).trans h1⟩
  size := Nat.le_trans h.size hb.size
theorem Env.word {w : World} (h : Env w) (k : Nat) (hk : k < 7) : w.cell? ⟨0, k, none⟩ = some (.string ⟨(nth [] wordsT k).toArray⟩) := by
  obtain ⟨t, fr, h1⟩ := h.words
  refine cell_at h1 ?_
  match k, hk with
  | 0, _ | 1, _ | 2, _ | 3, _ | 4, _ | 5, _ | 6, _ => rfl
theorem Env.how {w : World} (h : Env w) (k : Nat) (hk : k < 3) : w.cell? ⟨1, k, none⟩ = some (.string ⟨(nth [] howsT k).toArray⟩) := by
  obtain ⟨t, fr, h1⟩ := h.hows
  refine cell_at h1 ?_
  match k, hk with
  | 0, _ | 1, _ | 2, _ => rfl

theorem Kep.sl {α : Type} {d : Kd α} {w w1 : World} {ok : Nat → Prop} {v : Value} {xs : List α} {b : Nat} (hs : 0 < d.sz) (h : Sl d w ok v xs) (hk : Kep b w w1) (hok : ∀ k, ok k → k < b) : Sl d w1 ok v xs :=
  (h.move hs fun k ho _ => hk.below.block k (hok k ho)).mono fun _ h => h.1
theorem grow_below (w : World) (k : Nat) (os : Array Obj) : Below w.heap.size w (Go.Sort.grow (w.drewN k) os) :=
  ⟨rfl, rfl, rfl, by simp [Go.Sort.grow], fun i hi => by show (w.heap ++ os)[i]? = w.heap[i]?; rw [Array.getElem?_append, if_pos hi]⟩
theorem itoa_any (n : Int) (w : World) (h : Fit n) (he : Env w) :
    Calls Tryz.prog 15 #[.int .i64 n] w fun e w' => e = .returned (.string ⟨(Lib.itoa n).toArray⟩) ∧ Below w.heap.size w w' := by
  refine (Tryz.strconv_Itoa n (by have := h.1; omega) (by have := h.2; omega) w he.pow).mono ?_
  rintro e w' ⟨rfl, k, os, rfl⟩
  exact ⟨rfl, grow_below w k os⟩
theorem Bld.move {b : Nat} {l : List UInt8} {w w1 : World} (h : Bld b l w) (hb : Below w.heap.size w w1) : Bld b l w1 := by
  obtain ⟨p, v, hp, hbk, hown, hne, h0⟩ := h
  refine ⟨p, v, hp, block_kept hb hbk, hown.kept (row := none) ⟨hb.os, hb.tape, hb.output, hb.size, fun k hk _ => hb.block k hk⟩ ?_, hne, h0⟩
  cases v.ownBlock <;> simp

theorem kep_of_below {b : Nat} {w w1 : World} (hb : Below w.drew.heap.size w.drew w1) (hw : b ≤ w.heap.size) : Kep b w w1 :=
  ⟨(Below.drew (Below.refl b w)).trans (hb.mono hw), fun k _ hk _ _ => (hb.block k (Array.getElem?_eq_some_iff.1 hk).1).trans hk⟩
set_option maxRecDepth 100000 in
set_option maxHeartbeats 1000000 in
theorem numbers_any (b : Nat) (l : List UInt8) (v : Value) (xs : List Int) (ok : Nat → Prop) (w : World) (hB : Bld b l w) (hE : Env w) (hb8 : 8 ≤ b) (h1 : Sl (Kd.int .i64) w ok v xs) (hok : ∀ k, ok k → k < b ∨ ∃ c t fr, w.heap[k]? = some (.cells c t fr) ∧ t ≠ 5 ∧ k ≠ b) (hf : Fits xs) (hlen : l.length + (numsP xs).length ≤ 140737488355328) :
    Calls Tryz.prog 30 #[.pointer (some ⟨b, 0, none⟩), v] w fun e w' => e = .returned (.tuple #[]) ∧ Bld b (l ++ numsP xs) w' ∧ Kep b w w' := by
  have H1 := h1
  obtain ⟨A, c, rfl, hc, hm, hA⟩ := h1
  clear hA
  have hfx := Lib.hid hf
  clear hf
  have keep : ∀ W, Kep b w W → Sl (Kd.int .i64) W ok (.slice A xs.length c) xs := by
    intro W hk
    refine (H1.move (by decide) fun k ho hlt => ?_).mono fun _ h => h.1
    rcases hok k ho with h | ⟨c, t, fr, h, ht, hkb⟩
    · exact hk.below.block k h
    · exact (hk.others k _ h (by simpa using hkb) (fun c' fz e => ht (by injection e))).trans h.symm
  have HK := Lib.hid keep
  clear keep H1 hok
  have HE := Lib.hid hE
  have HB := Lib.hid hB
  clear hE hB
  go_enter Tryz.func30, Tryz.ntmps30
  go_wp2
  go_loopw [8] (fun i wr => ∃ k : Nat, i = .int .i64 k ∧ k ≤ xs.length ∧ Hid (Bld b (l ++ numsP (xs.take k)) wr) ∧ Hid (Kep b w wr)) (fun i _ => xs.length - (intOf i).toNat)
  case atStart => exact ⟨0, rfl, by omega, Lib.hid (by simpa [numsP] using HB.out), Lib.hid (Kep.refl _ _)⟩
  case round =>
    obtain ⟨k, rfl, hk, HB', HK'⟩ := hrel
    by_cases hlt : k < xs.length
    · obtain ⟨b1, o1, rfl, c1⟩ := (Sl.elems (HK.out _ HK'.out)).num hlt
      have hfk := hfx.out k hlt
      have hstep := numsP_snoc xs k hlt
      have hle := numsP_take_le xs (k + 1)
      have hit := Lib.hid (itoa_any (nth 0 xs k) wr.drew hfk (HE.out.below HK'.out.below.drew hb8))
      have hbl : l.length + (numsP (xs.take k)).length + (32 :: Lib.itoa (nth 0 xs k)).length ≤ 140737488355328 := by
        rw [hstep, List.length_append] at hle; omega
      have HS := Lib.hid hstep
      have HL := Lib.hid hbl
      have hil := Lib.itoa_length_le (nth 0 xs k) (by have := hfk.1; omega) (by have := hfk.2; omega)
      clear hstep hbl hle hfk
      have hdt : Hid ((ByteArray.mk #[32] ++ ByteArray.mk (Lib.itoa (nth 0 xs k)).toArray).data.toList = 32 :: Lib.itoa (nth 0 xs k)) := Lib.hid (by simp)
      have hsz : Hid ((l ++ numsP (xs.take k)).length + (ByteArray.mk #[32] ++ ByteArray.mk (Lib.itoa (nth 0 xs k)).toArray).size ≤ 140737488355328) := Lib.hid (by
        have := HL.out; rw [List.length_cons] at this; simp [ByteArray.size]; omega)
      have hbw : Hid (b ≤ wr.heap.size) := Lib.hid (by obtain ⟨_, _, _, h, _⟩ := HB'.out; have := lt_of_block h; omega)
      have HBd := Lib.hid (HB'.out.move (Below.drew (Below.refl wr.heap.size wr)))
      go_wp2
      go_region_with (first
        | (go_at_call 15; refine hit.out.mono ?_; rintro e w' ⟨rfl, hb⟩; have hb' := Lib.hid hb; clear hb)
        | (go_at_call 29; refine (writeString_any b _ _ _ (HBd.out.move hb'.out) hsz.out).mono ?_; rintro e w2 ⟨rfl, hB2, hk2⟩; rw [hdt.out] at hB2; have HB2 := Lib.hid hB2; have HK2 := Lib.hid hk2; clear hB2 hk2))
      go_wp2
      go_roundw
      case rel => exact ⟨k + 1, by go_num, by omega, Lib.hid (by rw [HS.out, ← List.append_assoc]; exact HB2.out), Lib.hid (HK'.out.trans ((kep_of_below hb'.out hbw.out).trans HK2.out))⟩
      case measure => simp [intOf]; omega
    · go_wp2
      go_end0
      have e : xs.take k = xs := List.take_of_length_le (by omega)
      rw [e] at HB'
      exact ⟨rfl, HB'.out, HK'.out⟩
end Go.Proofs.YtgpgmmkkmoecmaaGreatDoor

/- What the rows' lists give a walk; a start that meets them. -/
namespace Go.Proofs.YtgpgmmkkmoecmaaGreatDoor
open Go.ChangeShapes Go.WideShapes Go.ChangeAt Go.RowKit

theorem own_knob : ownKnob Tryz.prog.godebug = none := by kernel_rfl
theorem laid_out : laidOutB Tryz.prog = true := by kernel_rfl
def strData {H : Type} (ls : List (List UInt8)) : DataW H := .agg (ls.map fun l => .lit (.string l))
/-- An array of strings that reads as listed holds those strings. -/
theorem cells_of_strs {H : Type} {enc : TypeId × Value → H} {P : Program} {w : World} {base : Nat} {sp : Nat → Bool} {held : Bool} {fuel : Nat} {t e : TypeId} {n : Nat} {cs : List Value} {ls : List (List UInt8)} {p : List MemPlace}
    (ht : P.underlying t = some (.array n e)) (he : P.underlying e = some .string) (hce : P.cellsOf e = 1) (hct : P.cellsOf t = n)
    (h : DataW.trod enc P w base sp held fuel t cs = some (strData ls, p)) : cs = ls.map fun l => Value.string ⟨l.toArray⟩ := by
  cases fuel with
  | zero => simp [DataW.trod] at h
  | succ fuel =>
    simp only [DataW.trod, ht, hce, hct, Nat.mul_one] at h
    split at h
    · rename_i hl
      obtain ⟨xs, hm, hx⟩ := Option.map_eq_some_iff.1 h
      have hxs : xs.map (·.1) = ls.map fun l => (DataW.lit (.string l) : DataW H) := by
        have := congrArg Prod.fst hx
        simpa [strData] using this
      have hxl : xs.length = n := by simpa using Lib.mapM_length hm
      have hzl : ls.length = n := by
        have := congrArg List.length hxs
        simp at this
        omega
      apply List.ext_getElem?
      intro i
      by_cases hi : i < n
      · obtain ⟨b, hb, hf⟩ := Lib.mapM_at hm i i (by simp [hi])
        obtain ⟨s, hc, rfl, _⟩ := DataW.trod_string he hf
        have h1 : cs[i]? = some (.string s) := by
          have := congrArg (·[0]?) hc
          simpa [List.getElem?_take, List.getElem?_drop] using this
        have h2 : (xs.map (·.1))[i]? = some (DataW.lit (.string s.data.toList) : DataW H) := by simp [hb]
        rw [hxs] at h2
        simp only [List.getElem?_map, Option.map_eq_some_iff, DataW.lit.injEq, Lit.string.injEq] at h2
        obtain ⟨l', hl', he'⟩ := h2
        simp [h1, hl', he']
      · rw [List.getElem?_eq_none (by omega), List.getElem?_eq_none (by simp; omega)]
    · cases h
theorem strs_of_head {P : Program} {W : World} {name : String} {ls : List (List UInt8)} {rest : List (String × DataW Unit)} {g : Nat} {t e : TypeId} {n : Nat}
    (hg : P.globalNamed name = some g) (hty : (P.globals[g]?).map (·.type) = some t) (ht : P.underlying t = some (.array n e)) (he : P.underlying e = some .string) (hce : P.cellsOf e = 1) (hct : P.cellsOf t = n)
    (h : laidMet P ((name, strData ls) :: rest) W) : ∃ t fr, W.heap[g]? = some (.cells (ls.map fun l => Value.string ⟨l.toArray⟩).toArray t fr) := by
  obtain ⟨ps, ⟨g', t', cs, fuel, p, q, hg', ht', hvar, hd, _, _⟩, _⟩ := h
  obtain rfl := Option.some.inj (hg.symm.trans hg')
  obtain rfl := Option.some.inj (hty.symm.trans ht')
  have hc := cells_of_strs ht he hce hct hd
  simp only [World.var?, hg, Option.bind_some] at hvar
  split at hvar
  · rename_i cs' t fr hh
    injection hvar with hvar
    subst hvar
    exact ⟨t, fr, by rw [hh, ← hc]⟩
  · cases hvar
theorem iface_of_head {P : Program} {W : World} {name nm : String} {d : DataW Unit} {rest : List (String × DataW Unit)} {g : Nat} {t : TypeId} {ms : Array (String × TypeId)}
    (hg : P.globalNamed name = some g) (hty : (P.globals[g]?).map (·.type) = some t) (ht : P.underlying t = some (.interface ms))
    (h : laidMet P ((name, .iface nm d) :: rest) W) : ∃ tp p, W.var? P name = some #[.iface tp p] := by
  obtain ⟨ps, ⟨g', t', cs, fuel, p, q, hg', ht', hvar, hd, _, _⟩, _⟩ := h
  obtain rfl := Option.some.inj (hg.symm.trans hg')
  obtain rfl := Option.some.inj (hty.symm.trans ht')
  obtain ⟨f1, u, v, hcs, _, _⟩ := iface_of_trod ht hd
  exact ⟨u, v, by rw [hvar]; congr 1; exact Array.ext' hcs⟩
theorem size_of_head {P : Program} {W : World} {name : String} {d : DataW Unit} {rest : List (String × DataW Unit)} {g : Nat} (hg : P.globalNamed name = some g) (h : laidMet P ((name, d) :: rest) W) : g < W.heap.size := by
  obtain ⟨ps, ⟨g', t', cs, fuel, p, q, hg', ht', hvar, hd, _, _⟩, _⟩ := h
  obtain rfl := Option.some.inj (hg.symm.trans hg')
  simp only [World.var?, hg, Option.bind_some] at hvar
  split at hvar
  · rename_i hh; exact (Array.getElem?_eq_some_iff.1 hh).1
  · cases hvar
def rowLaid : List (String × DataW Unit) := [("math/bits.deBruijn32tab", Rows.laid_math_bits_deBruijn32tab), ("math/bits.deBruijn64tab", Rows.laid_math_bits_deBruijn64tab), ("internal/strconv.uint64pow10", Rows.laid_internal_strconv_uint64pow10), ("strconv.ErrRange", Rows.laid_strconv_ErrRange), ("strconv.ErrSyntax", Rows.laid_strconv_ErrSyntax), ("arborist/inst.words", Rows.laid_arborist_inst_words), ("arborist/inst.hows", Rows.laid_arborist_inst_hows)]
theorem env_of_laid {W : World} (h : laidMetH Tryz.prog rowLaid W) : Env W := by
  have h1 : laidMet Tryz.prog rowLaid W := h
  have h2 := h1.tail
  have h3 := h2.tail
  have h4 := h3.tail
  have h5 := h4.tail
  have h6 := h5.tail
  have h7 := h6.tail
  exact ⟨strs_of_head (g := 0) (t := 116) (ls := wordsT) (by kernel_rfl) (by kernel_rfl) Tryz.underlying116 Tryz.underlying9 (by kernel_rfl) (by kernel_rfl) h6,
    strs_of_head (g := 1) (t := 118) (ls := howsT) (by kernel_rfl) (by kernel_rfl) Tryz.underlying118 Tryz.underlying9 (by kernel_rfl) (by kernel_rfl) h7,
    Lib.tabIs_of_head (g := 2) (t := 322) (by kernel_rfl) (by kernel_rfl) Tryz.underlying322 Tryz.underlying174 (by kernel_rfl) (by kernel_rfl) h3,
    iface_of_head (g := 6) (t := 67) (by kernel_rfl) (by kernel_rfl) Tryz.underlying67 h5,
    iface_of_head (g := 7) (t := 67) (by kernel_rfl) (by kernel_rfl) Tryz.underlying67 h4,
    by first | exact size_of_head (g := 3) (by kernel_rfl) h2 | exact size_of_head (g := 7) (by kernel_rfl) h4 | exact size_of_head (g := 6) (by kernel_rfl) h5⟩
theorem laid_met (os : Os) (args : Array Value) : laidMet Tryz.prog rowLaid ((World.doorLaid Tryz.prog 200 os).forCall (fun _ _ => 0) ⟨#[], args, []⟩).memory :=
  laidMet_of_run' 8 (by kernel_rfl) (by kernel_rfl)
end Go.Proofs.YtgpgmmkkmoecmaaGreatDoor

/- From a contract 'true, and what was there stands' to the form's claims; a slice of bytes opened. -/
namespace Go.Proofs.YtgpgmmkkmoecmaaGreatDoor
open Go.ChangeShapes Go.WideShapes Go.ChangeAt Go.RowKit

/-- One argument, the answer true: what 'post' asks. -/
theorem post_true1 {H : Type} {enc : TypeId × Value → H} {f : Func} {s : ChangeSpec} {W W' : World} {t : TypeId} {v0 : Value} {d0 : DataW H} {p0 : List MemPlace}
    (hp : f.params = #[t]) (hr : f.resultTypes = #[4]) (hsv : s.vars = []) (hfn : s.fn H [d0] = { results := [.lit (.bool true)], args := [d0] })
    (hrd : Tryz.prog.readableRec t = true) (ht : t < Tryz.prog.types.size)
    (h0 : DataW.Trod enc Tryz.prog W 0 (fun _ => true) true t v0 d0 p0)
    (hW : DataW.Whole enc Tryz.prog f.params.toList s.vars false W #[v0].toList [d0] [] p0) (hb : Below W.heap.size W W') :
    s.post enc Tryz.prog f false true false false W #[v0] (.bool true) W' := by
  have hlt : ∀ x ∈ p0, x.block < W.heap.size := fun x hx => by simpa using hW.lt x hx
  refine ⟨[d0], [], p0, [], p0 ++ [], [], by simpa using hW, ?_, ?_, ?_, hb.frame _, fun h => by cases h⟩
  · rw [hr, show ([d0] ++ [] : List (DataW H)) = [d0] from rfl, hfn]
    exact trodAll_cons_mk (shut_bool Tryz.underlying4 _) trodAll_mk0
  · rw [hp, show ([d0] ++ [] : List (DataW H)) = [d0] from rfl, hfn]
    exact trodAll_cons_mk (Below.trod laid_out hrd ht h0 hb hlt) trodAll_mk0
  · rw [hsv, show ([d0] ++ [] : List (DataW H)) = [d0] from rfl, hfn]
    exact rfl
set_option maxRecDepth 100000 in
/-- A slice of bytes, as it is handed in. -/
theorem open_bytes {H : Type} {enc : TypeId × Value → H} {W : World} {base : Nat} {sp : Nat → Bool} {v : Value} {d : DataW H} {ps : List MemPlace}
    (hv : Value.okWide Tryz.prog W .any base 61 v) (h : DataW.Trod enc Tryz.prog W 0 sp true 61 v d ps) (hsz : (DataW.weightsEach Tryz.prog [61] [d]).all (· ≤ reachBytes) = true) :
    ∃ xs, Sl (Kd.int .u8) W (fun _ => True) v xs ∧ ∀ k, k < xs.length → 0 ≤ nth 0 xs k ∧ nth 0 xs k ≤ 255 := by
  obtain ⟨a0, len, cap, rfl⟩ := okWide_slice Tryz.underlying61 hv
  obtain ⟨fuel, hf⟩ := h
  rcases open_ints Tryz.underlying61 Tryz.underlying5 (by kernel_rfl) hf with ⟨hcs, _⟩ | ⟨a, len', cap', zs, hcs, _, hl, hm, hz, hx, hcell, hwz⟩
  · simp [Value.cells] at hcs
    obtain ⟨rfl, rfl, rfl⟩ := hcs
    exact ⟨[], ⟨none, 0, rfl, Nat.le_refl _, by simp, fun j x hx => by simp at hx⟩, fun k hk => by simp at hk⟩
  · simp [Value.cells] at hcs
    obtain ⟨rfl, rfl, rfl⟩ := hcs
    simp only [Prod.mk.injEq] at hx
    obtain ⟨rfl, _⟩ := hx
    have hzl : len ≤ zs.length := by rw [hz]; split <;> omega
    have htl : (zs.take len).length = len := by rw [List.length_take]; omega
    have hlen : len ≤ 140737488355328 := by
      simp [DataW.weightsEach, DataW.weights, Tryz.underlying61, show Tryz.prog.bytesOf 5 = 1 from by kernel_rfl, lits, reachBytes] at hsz
      have := of_decide_eq_true hsz.1
      omega
    refine ⟨zs.take len, ⟨some a, cap, by rw [htl], by rw [htl]; exact hl, by rw [htl]; exact hlen, fun j x hx => ?_⟩, fun k hk => ?_⟩
    · have hj : j < len := by have := (List.getElem?_eq_some_iff.1 hx).1; omega
      have hc := hcell j (by omega)
      obtain ⟨b, o, spot⟩ := a
      have hspot : spot = none := by simpa [Addr.add] using World.cell?_spot (hcell 0 (by omega))
      subst hspot
      rw [List.getElem?_take_of_lt hj] at hx
      have hx' : zs.getD j 0 = x := by rw [List.getD_eq_getElem?_getD, hx]; rfl
      rw [hx'] at hc
      refine ⟨b, o, [.int .u8 x], rfl, trivial, rfl, fun i u hu => ?_⟩
      have hi : i = 0 := by have := (List.getElem?_eq_some_iff.1 hu).1; simp at this; exact this
      subst hi
      simp at hu
      subst hu
      have e : (⟨b, o, none⟩ : Addr).add j = ⟨b, o + (j * (Kd.int .u8).sz + 0), none⟩ := by
        simp only [Kd.int, Kd.scalar, Nat.mul_one, Nat.add_zero]
        unfold Addr.add; split <;> simp_all
      rw [e] at hc
      exact hc
    · rw [htl] at hk
      have hk2 : k < zs.length := by omega
      have hm : zs[k] ∈ zs := List.getElem_mem hk2
      have := hwz _ hm
      have he : nth 0 (zs.take len) k = zs[k] := by simp [nth, List.getD_eq_getElem?_getD, List.getElem?_take_of_lt hk, List.getElem?_eq_getElem hk2]
      rw [he]
      simpa [Lit.wf, IntKind.min, IntKind.max, IntKind.signed, IntKind.bits] using this
end Go.Proofs.YtgpgmmkkmoecmaaGreatDoor

/- From a contract of two arguments, 'true, and what was there stands', to the form's claims. -/
namespace Go.Proofs.YtgpgmmkkmoecmaaGreatDoor
open Go.ChangeShapes Go.WideShapes Go.ChangeAt Go.RowKit

/-- Two arguments, the answer true: what 'post' asks. -/
theorem post_true2 {H : Type} {enc : TypeId × Value → H} {f : Func} {s : ChangeSpec} {W W' : World} {t u : TypeId} {v0 v1 : Value} {d0 d1 : DataW H} {p0 p1 : List MemPlace}
    (hp : f.params = #[t, u]) (hr : f.resultTypes = #[4]) (hsv : s.vars = []) (hfn : s.fn H [d0, d1] = { results := [.lit (.bool true)], args := [d0, d1] })
    (hrd : Tryz.prog.readableRec t = true) (ht : t < Tryz.prog.types.size) (hrd1 : Tryz.prog.readableRec u = true) (ht1 : u < Tryz.prog.types.size)
    (h0 : DataW.Trod enc Tryz.prog W 0 (fun _ => true) true t v0 d0 p0) (h1 : DataW.Trod enc Tryz.prog W 0 (fun _ => true) true u v1 d1 p1)
    (hW : DataW.Whole enc Tryz.prog f.params.toList s.vars false W #[v0, v1].toList [d0, d1] [] (p0 ++ p1)) (hb : Below W.heap.size W W') :
    s.post enc Tryz.prog f false true false false W #[v0, v1] (.bool true) W' := by
  have hlt : ∀ x ∈ p0 ++ p1, x.block < W.heap.size := fun x hx => by simpa using hW.lt x hx
  refine ⟨[d0, d1], [], p0 ++ p1, [], p0 ++ (p1 ++ []), [], by simpa using hW, ?_, ?_, ?_, hb.frame _, fun h => by cases h⟩
  · rw [hr, show ([d0, d1] ++ [] : List (DataW H)) = [d0, d1] from rfl, hfn]
    exact trodAll_cons_mk (shut_bool Tryz.underlying4 _) trodAll_mk0
  · rw [hp, show ([d0, d1] ++ [] : List (DataW H)) = [d0, d1] from rfl, hfn]
    exact trodAll_cons_mk (Below.trod laid_out hrd ht h0 hb (fun x hx => hlt x (List.mem_append_left _ hx))) (trodAll_cons_mk (Below.trod laid_out hrd1 ht1 h1 hb (fun x hx => hlt x (List.mem_append_right _ hx))) trodAll_mk0)
  · rw [hsv, show ([d0, d1] ++ [] : List (DataW H)) = [d0, d1] from rfl, hfn]
    exact rfl
end Go.Proofs.YtgpgmmkkmoecmaaGreatDoor

/- What inst.rows, hard, soft and Right compute. -/
namespace Go.Proofs.YtgpgmmkkmoecmaaGreatDoor
open Go.RowKit

def ahead (rows : List (List Int)) : Nat → Option (List Int)
  | 0 => none
  | k + 1 => some (nth [] rows k)
theorem rowsB_drop (doms : List (List Int)) (scope : List Int) (rows : List (List Int)) (k : Nat) (h : k < rows.length) :
    rowsB doms scope (ahead rows k) (rows.drop k) = (decide ((nth [] rows k).length = scope.length) && (match ahead rows k with | none => true | some p => decide (cmpL p (nth [] rows k) < 0)) && inDoms doms scope (nth [] rows k) && rowsB doms scope (ahead rows (k + 1)) (rows.drop (k + 1))) := by
  rw [drop_cons rows [] k h]; rfl
theorem inDoms_drop (doms : List (List Int)) (s t : List Int) (k : Nat) (h : k < s.length) (h' : k < t.length) :
    inDoms doms (s.drop k) (t.drop k) = (decide (nth 0 t k ∈ nth [] doms (nth 0 s k).toNat) && inDoms doms (s.drop (k + 1)) (t.drop (k + 1))) := by
  rw [drop_cons s 0 k h, drop_cons t 0 k h', inDoms]

set_option maxRecDepth 100000 in
theorem rows_any (vD vH vS vs v : Value) (doms : List (List Int)) (scope : List Int) (rows : List (List Int)) (ok : Nat → Prop) (w : World) (hD : Sl kRow w ok vD doms) (hs : Sl (Kd.int .i64) w ok vs scope) (hr : Sl kRow w ok v rows)
    (hsc : ∀ k, k < scope.length → 0 ≤ nth 0 scope k ∧ nth 0 scope k < doms.length) :
    Calls Tryz.prog 55 #[.agg #[vD, vH, vS], vs, v] w fun e w' => e = .returned (.bool (rowsB doms scope none rows)) ∧ Below w.heap.size w w' := by
  obtain ⟨AD, cD, rfl, hcD, hmD, hAD⟩ := hD
  have HB := below_alloc1 w (.cells #[.slice AD doms.length cD, vH, vS] 30)
  have HD := Sl.elems (Sl.below (v := .slice AD doms.length cD) (xs := doms) (by decide) ⟨AD, cD, rfl, hcD, hmD, hAD⟩ HB)
  clear hAD
  obtain ⟨As, cs, rfl, hcs, hms, hAs⟩ := hs
  have HS := Sl.elems (Sl.below (v := .slice As scope.length cs) (xs := scope) (by decide) ⟨As, cs, rfl, hcs, hms, hAs⟩ HB)
  clear hAs
  obtain ⟨A, c, rfl, hc, hm, hA⟩ := hr
  have HR := Sl.elems (Sl.below (v := .slice A rows.length c) (xs := rows) (by decide) ⟨A, c, rfl, hc, hm, hA⟩ HB)
  clear hA
  have hsc' := Lib.hid hsc
  clear hsc
  go_enter Tryz.func55, Tryz.ntmps55
  go_wp2
  go_loopw [13] (fun i wr => ∃ k : Nat, i = .int .i64 k ∧ k ≤ rows.length ∧ Hid (rowsB doms scope none rows = rowsB doms scope (ahead rows k) (rows.drop k)) ∧ ∃ n, wr = (w.alloc (.cells #[.slice AD doms.length cD, vH, vS] 30)).drewN n) (fun i _ => rows.length - (intOf i).toNat)
  case atStart => exact ⟨0, rfl, by omega, Lib.hid rfl, 0, rfl⟩
  case round =>
    obtain ⟨k, rfl, hk, H, nd, rfl⟩ := hrel
    by_cases hkl : k < rows.length
    · obtain ⟨b, o, vt, rfl, c1, ht⟩ := HR.row hkl
      obtain ⟨At, ct, rfl, hct, hmt, hAt⟩ := ht
      have H' := Lib.hid (rowsB_drop doms scope rows k hkl)
      by_cases hlen : (nth [] rows k).length = scope.length
      · have hb : (((nth [] rows k).length : Int) != scope.length) = false := by simp; omega
        have hlen' : (nth [] rows k).length ≤ scope.length ∧ scope.length ≤ (nth [] rows k).length := by omega
        obtain ⟨hl1, hl2⟩ := hlen'
        have hlen := Lib.hid hlen
        have hSt : Sl (Kd.int .i64) (w.alloc (.cells #[.slice AD doms.length cD, vH, vS] 30)) ok (.slice At scope.length ct) (nth [] rows k) := by rw [← hlen.out]; exact ⟨At, ct, rfl, hct, hmt, hAt⟩
        by_cases hC : 0 < k ∧ ¬ cmpL (nth [] rows (k - 1)) (nth [] rows k) < 0
        · obtain ⟨hpos, hcmp⟩ := hC
          obtain ⟨b', o', vp, he, c2, hp⟩ := HR.row (j := k - 1) (by omega)
          injection he with he
          injection he with he1 he2
          subst he1 he2
          have hs0 : IntKind.i64.wrap ((k:Int) - 1) = (k:Int) - 1 := IntWalk.i64_in _ (by omega)
          have hs1 : ((k:Int) - 1).toNat = k - 1 := by omega
          have hah : Hid ((match ahead rows k with | none => true | some p => decide (cmpL p (nth [] rows k) < 0)) = false) := by
            obtain ⟨j, rfl⟩ : ∃ j, k = j + 1 := ⟨k - 1, by omega⟩
            exact Lib.hid (decide_eq_false hcmp)
          have hcp' := Lib.hid (fun n => tcompare_any vp (.slice At scope.length ct) _ _ ok ((w.alloc (.cells #[.slice AD doms.length cD, vH, vS] 30)).drewN n) (hp.drewN (by decide) n) (hSt.drewN (by decide) n))
          clear hp
          go_wp2_with (go_at_call 89; refine (hcp'.out _).mono ?_; rintro e w' ⟨rfl, rfl⟩)
          go_ret
          exact ⟨ret_bool (by rw [H.out, H'.out, hah.out]; simp), below_drewN HB _⟩
        · have Hgo : Hid ((match ahead rows k with | none => true | some p => decide (cmpL p (nth [] rows k) < 0)) = true) := by
            cases k with
            | zero => exact Lib.hid rfl
            | succ j => exact Lib.hid (decide_eq_true (Classical.not_not.1 fun h => hC ⟨Nat.succ_pos _, h⟩))
          have Hx : Hid (rowsB doms scope none rows = (inDoms doms scope (nth [] rows k) && rowsB doms scope (ahead rows (k + 1)) (rows.drop (k + 1)))) := by
            apply Lib.hid; rw [H.out, H'.out, Hgo.out, hlen.out]; simp only [decide_true, Bool.true_and]
          clear H H'
          have hin : 0 < k ∧ cmpL (nth [] rows (k - 1)) (nth [] rows k) < 0 ∨ ¬ 0 < k := by
            rcases Nat.lt_or_ge 0 k with h | h
            · exact .inl ⟨h, Classical.not_not.1 fun h' => hC ⟨h, h'⟩⟩
            · exact .inr (by omega)
          clear hC Hgo
          have hfacts : ∃ vp, (0 < k → (w.alloc (.cells #[.slice AD doms.length cD, vH, vS] 30)).cell? ⟨b, o + (k - 1), none⟩ = some vp) ∧ ∀ n, 0 < k → Calls Tryz.prog 89 #[vp, .slice At scope.length ct] ((w.alloc (.cells #[.slice AD doms.length cD, vH, vS] 30)).drewN n) fun e w' => e = .returned (.int .i64 (cmpL (nth [] rows (k - 1)) (nth [] rows k))) ∧ (w.alloc (.cells #[.slice AD doms.length cD, vH, vS] 30)).drewN n = w' := by
            rcases hin with ⟨hpos, _⟩ | hpos
            · obtain ⟨b', o', vp, he, c2, hp⟩ := HR.row (j := k - 1) (by omega)
              injection he with he
              injection he with he1 he2
              subst he1 he2
              exact ⟨vp, fun _ => c2, fun n _ => tcompare_any _ _ _ _ ok _ (hp.drewN (by decide) n) (hSt.drewN (by decide) n)⟩
            · exact ⟨undef, fun h => absurd h hpos, fun _ h => absurd h hpos⟩
          obtain ⟨vp, c2, hcp⟩ := hfacts
          have hcp' := Lib.hid hcp
          clear hcp
          have hs0 : 0 < k → IntKind.i64.wrap ((k:Int) - 1) = (k:Int) - 1 := fun h => IntWalk.i64_in _ (by omega)
          have hs1 : 0 < k → ((k:Int) - 1).toNat = k - 1 := by omega
          rcases hin with ⟨hpos, hcmp⟩ | hpos
          all_goals
            first | replace c2 := c2 hpos | clear c2
            first | replace hs0 := hs0 hpos | clear hs0
            first | replace hs1 := hs1 hpos | clear hs1
            go_wp2_with (go_at_call 89; refine (hcp'.out _ hpos).mono ?_; rintro e w' ⟨rfl, rfl⟩)
            try clear hcmp c2 hs0 hs1
            clear hcp'
            go_loopw [39] (fun i wr => ∃ m : Nat, i = .int .i64 m ∧ m ≤ scope.length ∧ Hid (inDoms doms scope (nth [] rows k) = inDoms doms (scope.drop m) ((nth [] rows k).drop m)) ∧ ∃ n, wr = (w.alloc (.cells #[.slice AD doms.length cD, vH, vS] 30)).drewN n) (fun i _ => scope.length - (intOf i).toNat)
            case atStart => exact ⟨0, rfl, by omega, Lib.hid rfl, _, rfl⟩
            case round =>
              obtain ⟨m, rfl, hm1, G, nd1, rfl⟩ := hrel
              by_cases hml : m < scope.length
              · obtain ⟨b1, o1, rfl, d1⟩ := HS.num hml
                obtain ⟨b2, o2, rfl, d2⟩ := (Sl.elems hSt).num (j := m) (by rw [hlen.out]; exact hml)
                obtain ⟨q1, q2⟩ := hsc'.out m hml
                obtain ⟨b3, o3, v3, rfl, d3, hd3⟩ := HD.row (j := (nth 0 scope m).toNat) (by omega)
                have G' := Lib.hid (inDoms_drop doms scope (nth [] rows k) m hml (by rw [hlen.out]; exact hml))
                have hct' := Lib.hid (fun n => contains_any v3 _ (nth 0 (nth [] rows k) m) ok ((w.alloc (.cells #[.slice (some ⟨b3, o3, none⟩) doms.length cD, vH, vS] 30)).drewN n) (hd3.drewN (by decide) n))
                clear HS hSt HD hd3
                go_wp2
                go_quiet ((go_at_call 90; exact quiet_add_left (hct'.out _)))
                cases hmem : decide (nth 0 (nth [] rows k) m ∈ nth [] doms (nth 0 scope m).toNat)
                · go_wp2
                  go_ret
                  exact ⟨ret_bool (by rw [Hx.out, G.out, G'.out, hmem]; simp), by first | exact below_drewN HB _ | exact below_drewN (below_drewN HB _) _⟩
                · go_wp2
                  go_roundw
                  case rel => exact ⟨m + 1, by go_num, by omega, Lib.hid (by rw [G.out, G'.out, hmem]; simp), by first | exact ⟨_, rfl⟩ | exact ⟨_, World.drewN_drewN ..⟩⟩
                  case measure => simp [intOf]; omega
              · go_wp2
                go_roundw
                case rel => exact ⟨k + 1, by go_num, by omega, Lib.hid (by rw [Hx.out, G.out, List.drop_eq_nil_of_le (show scope.length ≤ m by omega)]; simp [inDoms]), by first | exact ⟨_, rfl⟩ | exact ⟨_, World.drewN_drewN ..⟩⟩
                case measure => simp [intOf]; omega
      · have hb : (((nth [] rows k).length : Int) != scope.length) = true := by simp; omega
        go_wp2
        go_ret
        exact ⟨ret_bool (by rw [H.out, H'.out, decide_eq_false hlen]; simp), below_drewN HB _⟩
    · go_wp2
      go_ret
      exact ⟨ret_bool (by rw [H.out, List.drop_eq_nil_of_le (by omega)]; cases k <;> rfl), below_drewN HB _⟩

/-- A hard constraint, a soft one. -/
abbrev kCon : Kd Con := Kd.iso (Kd.pair (Kd.int .i64) (Kd.pair kRow (Kd.pair kRows kRow))) (fun c => (c.kind, c.scope, c.rows, c.args))
abbrev kSft : Kd Sft := Kd.iso (Kd.pair kRow (Kd.pair kRows (Kd.pair kRow (Kd.int .i64)))) (fun s => (s.scope, s.rows, s.costs, s.dflt))
theorem kCon_cells {w : World} {ok : Nat → Prop} {c : Con} {cs : List Value} (h : kCon.K w ok c cs) : ∃ vs vr va, cs = [.int .i64 c.kind, vs, vr, va] ∧ Sl (Kd.int .i64) w ok vs c.scope ∧ Sl kRow w ok vr c.rows ∧ Sl (Kd.int .i64) w ok va c.args := by
  obtain ⟨_, _, rfl, h0, _, _, rfl, ⟨vs, rfl, h1⟩, _, _, rfl, ⟨vr, rfl, h2⟩, va, rfl, h3⟩ := h
  exact ⟨vs, vr, va, by rw [show _ = [Value.int .i64 c.kind] from h0]; rfl, h1, h2, h3⟩
theorem kSft_cells {w : World} {ok : Nat → Prop} {s : Sft} {cs : List Value} (h : kSft.K w ok s cs) : ∃ vs vr vc, cs = [vs, vr, vc, .int .i64 s.dflt] ∧ Sl (Kd.int .i64) w ok vs s.scope ∧ Sl kRow w ok vr s.rows ∧ Sl (Kd.int .i64) w ok vc s.costs := by
  obtain ⟨_, _, rfl, ⟨vs, rfl, h1⟩, _, _, rfl, ⟨vr, rfl, h2⟩, _, _, rfl, ⟨vc, rfl, h3⟩, h0⟩ := h
  exact ⟨vs, vr, vc, by rw [show _ = [Value.int .i64 s.dflt] from h0]; rfl, h1, h2, h3⟩
theorem kCon_mk {w : World} {ok : Nat → Prop} {c : Con} {vs vr va : Value} (h1 : Sl (Kd.int .i64) w ok vs c.scope) (h2 : Sl kRow w ok vr c.rows) (h3 : Sl (Kd.int .i64) w ok va c.args) : kCon.K w ok c [.int .i64 c.kind, vs, vr, va] :=
  ⟨[_], [_, _, _], rfl, rfl, [_], [_, _], rfl, ⟨_, rfl, h1⟩, [_], [_], rfl, ⟨_, rfl, h2⟩, _, rfl, h3⟩
theorem kSft_mk {w : World} {ok : Nat → Prop} {s : Sft} {vs vr vc : Value} (h1 : Sl (Kd.int .i64) w ok vs s.scope) (h2 : Sl kRow w ok vr s.rows) (h3 : Sl (Kd.int .i64) w ok vc s.costs) : kSft.K w ok s [vs, vr, vc, .int .i64 s.dflt] :=
  ⟨[_], [_, _, _], rfl, ⟨_, rfl, h1⟩, [_], [_, _], rfl, ⟨_, rfl, h2⟩, [_], [_], rfl, ⟨_, rfl, h3⟩, rfl⟩

theorem scopeB_bounds {n : Nat} {l : List Int} (h : scopeB n l = true) : ∀ k, k < l.length → 0 ≤ nth 0 l k ∧ nth 0 l k < n := by
  simp only [scopeB, Bool.and_eq_true, decide_eq_true_eq] at h
  obtain ⟨⟨⟨⟨h0, _⟩, hr⟩, h1⟩, h2⟩ := h
  have mono : ∀ (j k : Nat), j + k < l.length → nth 0 l k ≤ nth 0 l (j + k) ∧ True := by
    have step : ∀ k, k + 1 < l.length → nth 0 l k < nth 0 l (k + 1) := by
      intro k hk
      have : risingB (l.drop k) = true := by
        induction k with
        | zero => exact hr
        | succ k ih =>
          have := ih (by omega)
          rw [risingB_drop l k (by omega)] at this
          simp only [Bool.and_eq_true] at this
          exact this.2
      rw [risingB_drop l k hk] at this
      simp only [Bool.and_eq_true, decide_eq_true_eq] at this
      exact this.1
    intro j
    induction j with
    | zero => intro k _; simp
    | succ j ih =>
      intro k hk
      have a := ih k (by omega)
      have b := step (j + k) (by omega)
      rw [show j + 1 + k = j + k + 1 from by omega]
      exact ⟨by omega, trivial⟩
  intro k hk
  have a := mono k 0 (by omega)
  have b := mono (l.length - 1 - k) k (by omega)
  rw [show l.length - 1 - k + k = l.length - 1 from by omega] at b
  simp only [Nat.add_zero] at a
  exact ⟨Int.le_trans h1 a.1, Int.lt_of_le_of_lt b.1 h2⟩

set_option maxRecDepth 100000 in
theorem hard_any (vD vH vS vs vr va : Value) (x : Ins) (c : Con) (ok : Nat → Prop) (w : World) (hD : Sl kRow w ok vD x.doms) (h1 : Sl (Kd.int .i64) w ok vs c.scope) (h2 : Sl kRow w ok vr c.rows) (h3 : Sl (Kd.int .i64) w ok va c.args) :
    Calls Tryz.prog 25 #[.agg #[vD, vH, vS], .agg #[.int .i64 c.kind, vs, vr, va]] w fun e w' => e = .returned (.bool (hardB x c)) ∧ Below w.heap.size w w' := by
  obtain ⟨AD, cD, rfl, hcD, hmD, hAD⟩ := hD
  obtain ⟨As, cs, rfl, hcs, hms, hAs⟩ := h1
  obtain ⟨Ar, cr, rfl, hcr, hmr, hAr⟩ := h2
  obtain ⟨Aa, ca, rfl, hca, hma, hAa⟩ := h3
  have HB0 := (below_alloc1 w (.cells #[.slice AD x.doms.length cD, vH, vS] 30)).alloc (by simp) (.cells #[.int .i64 c.kind, .slice As c.scope.length cs, .slice Ar c.rows.length cr, .slice Aa c.args.length ca] 34)
  have HD := Sl.below (v := .slice AD x.doms.length cD) (xs := x.doms) (by decide) ⟨AD, cD, rfl, hcD, hmD, hAD⟩ HB0
  have HS := Sl.below (v := .slice As c.scope.length cs) (xs := c.scope) (by decide) ⟨As, cs, rfl, hcs, hms, hAs⟩ HB0
  have HR := Sl.below (v := .slice Ar c.rows.length cr) (xs := c.rows) (by decide) ⟨Ar, cr, rfl, hcr, hmr, hAr⟩ HB0
  have HA := Sl.below (v := .slice Aa c.args.length ca) (xs := c.args) (by decide) ⟨Aa, ca, rfl, hca, hma, hAa⟩ HB0
  clear hAD hAs hAr hAa
  have HB := Lib.hid HB0
  clear HB0
  have hsc := scope_any _ vH vS _ _ _ ok _ HD HS
  have hsc' := Lib.hid hsc
  clear hsc
  go_enter Tryz.func25, Tryz.ntmps25
  go_wp2_with (go_at_call 53; refine (hsc'.out).mono ?_; rintro e w' ⟨rfl, hb⟩; (obtain ⟨hc, hb'⟩ : (∀ b o, _ → _) ∧ Hid _ := ⟨bcell hb, Lib.hid hb⟩); clear hb)
  all_goals try (go_at_call 54; refine (linear_any _ _ _ _ _ _ (HS.below (by decide) hb'.out) (HA.below (by decide) hb'.out)).mono ?_; rintro e w'' ⟨rfl, hb⟩; have hb2 := Lib.hid hb; clear hb; go_wp2)
  all_goals try (go_at_call 55; refine (rows_any _ _ _ _ _ _ _ _ _ _ (HD.below (by decide) hb'.out) (HS.below (by decide) hb'.out) (HR.below (by decide) hb'.out) (scopeB_bounds (by assumption))).mono ?_; rintro e w'' ⟨rfl, hb⟩; have hb2 := Lib.hid hb; clear hb; go_wp2)
  all_goals go_ret
  all_goals refine ⟨ret_bool ?_, by first | exact below_next (below_next HB.out hb'.out) hb2.out | exact below_next HB.out hb'.out⟩
  all_goals clear hc hsc' HD HS HR HA HB hb'
  all_goals try clear hb2
  all_goals try (simp_all [hardB]; done)
  all_goals simp_all [hardB]
  all_goals first | (intro h1; exfalso; omega) | (intro h1; exfalso; have h2 := congrArg List.length h1; simp only [List.length_nil] at h2; omega)
end Go.Proofs.YtgpgmmkkmoecmaaGreatDoor

/- The plain functions that the program computes, part 4: the tokens of a text. No program, no memory. -/
namespace Go.Proofs.YtgpgmmkkmoecmaaGreatDoor

def isDigit (c : UInt8) : Bool := decide (48 ≤ c.toNat) && decide (c.toNat ≤ 57)
def isLetter (c : UInt8) : Bool := decide (97 ≤ c.toNat) && decide (c.toNat ≤ 122)
def notEol (c : UInt8) : Bool := decide (c.toNat ≠ 10)
/-- How many bytes from the first on are so. -/
def runP (p : UInt8 → Bool) : List UInt8 → Nat
  | [] => 0
  | c :: r => if p c = true then runP p r + 1 else 0
/-- How many bytes are left out. -/
def leftP : List UInt8 → Nat
  | [] => 0
  | c :: r => if c.toNat = 32 ∨ c.toNat = 9 ∨ c.toNat = 10 then 1 else if c.toNat = 35 then runP notEol (c :: r) else 0
structure Tok where
  kind : Int
  text : List UInt8
  n : Int
  at_ : Int
  deriving DecidableEq, Inhabited
/-- A number ahead: what it says, and how many bytes it has; or an error. -/
def numP (l : List UInt8) : Except Int (Int × Nat) :=
  let m := if l.head? = some 45 then 1 else 0
  let ds := (l.drop m).take (runP isDigit (l.drop m))
  if ds = [] ∨ ds.head? = some 48 ∧ 1 < ds.length + m then .error 2
  else match Lib.parseIntB 64 (l.take (m + ds.length)) with
    | .ok v => if 1000000000000 < v ∨ v < -1000000000000 then .error 4 else .ok (v, m + ds.length)
    | _ => .error 4
/-- The token that a text begins with, and how many bytes it has. -/
def tokenP (l : List UInt8) : Except Int (Tok × Nat) :=
  match l with
  | [] => .error 2
  | c :: r =>
    if c.toNat = 58 ∨ c.toNat = 44 ∨ c.toNat = 59 then .ok (⟨3, [c], 0, 0⟩, 1)
    else if isLetter c = true then .ok (⟨1, (c :: r).take (runP isLetter (c :: r)), 0, 0⟩, runP isLetter (c :: r))
    else if isDigit c = true ∨ c.toNat = 45 then match numP (c :: r) with
      | .ok (n, k) => .ok (⟨2, [], n, 0⟩, k)
      | .error e => .error e
    else .error 2
/-- The tokens from a place on. -/
def scanP : Nat → Nat → List UInt8 → Except (Nat × Int) (List Tok)
  | 0, _, _ => .ok []
  | f + 1, at_, l =>
    if l = [] then .ok [⟨4, [], 0, at_⟩]
    else if 0 < leftP l then scanP f (at_ + leftP l) (l.drop (leftP l))
    else match tokenP l with
      | .error e => .error (at_, e)
      | .ok (t, k) => match scanP f (at_ + k) (l.drop k) with
        | .ok ts => .ok ({ t with at_ := at_ } :: ts)
        | .error e => .error e
def allP (l : List UInt8) : Except (Nat × Int) (List Tok) :=
  if 100000 < l.length then .error (0, 7) else scanP (l.length + 1) 0 l

theorem runP_le (p : UInt8 → Bool) : ∀ l : List UInt8, runP p l ≤ l.length
  | [] => Nat.le_refl _
  | c :: r => by
    unfold runP
    have := runP_le p r
    split <;> simp <;> omega
theorem runP_drop (p : UInt8 → Bool) (l : List UInt8) (k : Nat) (h : k < l.length) : runP p (l.drop k) = if p (nth 0 l k) = true then runP p (l.drop (k + 1)) + 1 else 0 := by
  rw [drop_cons l 0 k h, runP]

theorem leftP_le (l : List UInt8) : leftP l ≤ l.length := by
  cases l with
  | nil => exact Nat.le_refl _
  | cons c r =>
    have := runP_le notEol (c :: r)
    simp only [leftP]
    split
    · simp
    · split
      · exact this
      · simp
theorem numP_size {l : List UInt8} {n : Int} {k : Nat} (h : numP l = .ok (n, k)) : 0 < k ∧ k ≤ l.length := by
  unfold numP at h
  dsimp only at h
  have hm1 : (if l.head? = some 45 then 1 else 0) ≤ l.length := by cases l <;> simp; split <;> omega
  generalize (if l.head? = some 45 then 1 else 0) = m at h hm1
  have hle : ((l.drop m).take (runP isDigit (l.drop m))).length ≤ l.length - m := by rw [List.length_take, List.length_drop]; omega
  generalize (l.drop m).take (runP isDigit (l.drop m)) = ds at h hle
  by_cases hc : ds = [] ∨ ds.head? = some 48 ∧ 1 < ds.length + m
  · rw [if_pos hc] at h; cases h
  · rw [if_neg hc] at h
    have hpos : 0 < ds.length := List.length_pos_iff.2 fun e => hc (.inl e)
    cases hp : Lib.parseIntB 64 (l.take (m + ds.length)) with
    | ok v =>
      rw [hp] at h
      simp only at h
      by_cases hv : 1000000000000 < v ∨ v < -1000000000000
      · rw [if_pos hv] at h; cases h
      · rw [if_neg hv] at h
        injection h with h
        injection h with _ h
        omega
    | range => rw [hp] at h; cases h
    | _ => rw [hp] at h; cases h
theorem tokenP_size {l : List UInt8} {t : Tok} {k : Nat} (h : tokenP l = .ok (t, k)) : 0 < k ∧ k ≤ l.length := by
  cases l with
  | nil => cases h
  | cons c r =>
    simp only [tokenP] at h
    split at h
    · injection h with h; injection h with _ h; simp; omega
    · split at h
      · rename_i hw
        injection h with h; injection h with _ h
        have := runP_le isLetter (c :: r)
        have h1 : 0 < runP isLetter (c :: r) := by unfold runP; rw [if_pos hw]; omega
        omega
      · split at h
        · split at h
          · rename_i n q hn
            injection h with h; injection h with _ h
            have := numP_size hn
            omega
          · cases h
        · cases h
theorem numP_err {l : List UInt8} {x : Int} (h : numP l = .error x) : x = 2 ∨ x = 4 := by
  unfold numP at h
  dsimp only at h
  generalize (if l.head? = some 45 then 1 else 0) = m at h
  generalize (l.drop m).take (runP isDigit (l.drop m)) = ds at h
  by_cases hc : ds = [] ∨ ds.head? = some 48 ∧ 1 < ds.length + m
  · rw [if_pos hc] at h; injection h with h; exact .inl h.symm
  · rw [if_neg hc] at h
    cases hp : Lib.parseIntB 64 (l.take (m + ds.length)) with
    | ok v =>
      rw [hp] at h
      simp only at h
      by_cases hv : 1000000000000 < v ∨ v < -1000000000000
      · rw [if_pos hv] at h; injection h with h; exact .inr h.symm
      · rw [if_neg hv] at h; cases h
    | range => rw [hp] at h; injection h with h; exact .inr h.symm
    | _ => rw [hp] at h; injection h with h; exact .inr h.symm
theorem tokenP_err {l : List UInt8} {x : Int} (h : tokenP l = .error x) : x = 2 ∨ x = 4 := by
  cases l with
  | nil => injection h with h; exact .inl h.symm
  | cons c r =>
    simp only [tokenP] at h
    split at h
    · cases h
    · split at h
      · cases h
      · split at h
        · split at h
          · cases h
          · rename_i hn; injection h with h; subst h; exact numP_err hn
        · injection h with h; exact .inl h.symm
/-- The tokens from a place on, with as many rounds as are wanted. -/
def scanQ (at_ : Nat) (l : List UInt8) : Except (Nat × Int) (List Tok) := scanP (l.length + 1) at_ l
theorem scanP_fuel : ∀ (f g at_ : Nat) (l : List UInt8), l.length < f → l.length < g → scanP f at_ l = scanP g at_ l
  | 0, _, _, _, h, _ => by omega
  | _ + 1, 0, _, _, _, h => by omega
  | f + 1, g + 1, at_, l, hf, hg => by
    rw [scanP, scanP]
    by_cases hl : l = []
    · rw [if_pos hl, if_pos hl]
    · have hpos : 0 < l.length := List.length_pos_iff.2 hl
      rw [if_neg hl, if_neg hl]
      by_cases h0 : 0 < leftP l
      · have := leftP_le l
        rw [if_pos h0, if_pos h0, scanP_fuel f g _ _ (by rw [List.length_drop]; omega) (by rw [List.length_drop]; omega)]
      · rw [if_neg h0, if_neg h0]
        cases ht : tokenP l with
        | error e => rfl
        | ok p =>
          obtain ⟨t, k⟩ := p
          have hk := tokenP_size ht
          simp only
          rw [scanP_fuel f g _ _ (by rw [List.length_drop]; omega) (by rw [List.length_drop]; omega)]
theorem scanQ_nil (at_ : Nat) : scanQ at_ [] = .ok [⟨4, [], 0, at_⟩] := rfl
theorem scanQ_left (at_ : Nat) (l : List UInt8) (hl : l ≠ []) (h0 : 0 < leftP l) : scanQ at_ l = scanQ (at_ + leftP l) (l.drop (leftP l)) := by
  have hpos : 0 < l.length := List.length_pos_iff.2 hl
  have := leftP_le l
  unfold scanQ
  rw [scanP, if_neg hl, if_pos h0]
  exact scanP_fuel _ _ _ _ (by rw [List.length_drop]; omega) (by omega)
theorem scanQ_bad (at_ : Nat) (l : List UInt8) (hl : l ≠ []) (h0 : ¬ 0 < leftP l) {e : Int} (h : tokenP l = .error e) : scanQ at_ l = .error (at_, e) := by
  unfold scanQ
  rw [scanP, if_neg hl, if_neg h0, h]
theorem scanQ_tok (at_ : Nat) (l : List UInt8) (hl : l ≠ []) (h0 : ¬ 0 < leftP l) {t : Tok} {k : Nat} (h : tokenP l = .ok (t, k)) :
    scanQ at_ l = match scanQ (at_ + k) (l.drop k) with | .ok ts => .ok ({ t with at_ := at_ } :: ts) | .error e => .error e := by
  have hpos : 0 < l.length := List.length_pos_iff.2 hl
  have hk := tokenP_size h
  unfold scanQ
  rw [scanP, if_neg hl, if_neg h0, h]
  simp only
  rw [scanP_fuel l.length ((l.drop k).length + 1) _ _ (by rw [List.length_drop]; omega) (by omega)]
/-- What was told ahead, and what comes. -/
def preP (ts : List Tok) : Except (Nat × Int) (List Tok) → Except (Nat × Int) (List Tok)
  | .ok r => .ok (ts ++ r)
  | .error e => .error e
theorem preP_tok (ts : List Tok) (t : Tok) (x : Except (Nat × Int) (List Tok)) : preP ts (match x with | .ok r => .ok (t :: r) | .error e => .error e) = preP (ts ++ [t]) x := by
  cases x <;> simp [preP]
end Go.Proofs.YtgpgmmkkmoecmaaGreatDoor

/- What scan's small functions compute. -/
namespace Go.Proofs.YtgpgmmkkmoecmaaGreatDoor
open Go.RowKit

theorem letter_any (c : Int) (w : World) (h0 : 0 ≤ c) (h1 : c ≤ 255) : Calls Tryz.prog 96 #[.int .u8 c] w fun e w' => e = .returned (.bool (decide (97 ≤ c) && decide (c ≤ 122))) ∧ w = w' := by
  by_cases h : 97 ≤ c
  · go_enter Tryz.func96, Tryz.ntmps96
    go_wp2
    go_ret
    exact ⟨ret_bool (by simp [h]), rfl⟩
  · go_enter Tryz.func96, Tryz.ntmps96
    go_wp2
    go_ret
    exact ⟨ret_bool (by simp; omega), rfl⟩
theorem digit_any (c : Int) (w : World) (h0 : 0 ≤ c) (h1 : c ≤ 255) : Calls Tryz.prog 97 #[.int .u8 c] w fun e w' => e = .returned (.bool (decide (48 ≤ c) && decide (c ≤ 57))) ∧ w = w' := by
  by_cases h : 48 ≤ c
  · go_enter Tryz.func97, Tryz.ntmps97
    go_wp2
    go_ret
    exact ⟨ret_bool (by simp [h]), rfl⟩
  · go_enter Tryz.func97, Tryz.ntmps97
    go_wp2
    go_ret
    exact ⟨ret_bool (by simp; omega), rfl⟩
theorem eol_any (c : Int) (w : World) : Calls Tryz.prog 95 #[.int .u8 c] w fun e w' => e = .returned (.bool (c != 10)) ∧ w = w' := by
  go_enter Tryz.func95, Tryz.ntmps95
  go_wp2
  go_ret
  exact ⟨rfl, rfl⟩
theorem letter_u (c : UInt8) (w : World) : Calls Tryz.prog 96 #[.int .u8 (c.toNat : Int)] w fun e w' => e = .returned (.bool (isLetter c)) ∧ w = w' := by
  have := c.toNat_lt
  refine (letter_any c.toNat w (by omega) (by omega)).mono ?_
  rintro e w' ⟨rfl, rfl⟩
  exact ⟨ret_bool (by unfold isLetter; congr 1 <;> (rw [decide_eq_decide]; omega)), rfl⟩
theorem digit_u (c : UInt8) (w : World) : Calls Tryz.prog 97 #[.int .u8 (c.toNat : Int)] w fun e w' => e = .returned (.bool (isDigit c)) ∧ w = w' := by
  have := c.toNat_lt
  refine (digit_any c.toNat w (by omega) (by omega)).mono ?_
  rintro e w' ⟨rfl, rfl⟩
  exact ⟨ret_bool (by unfold isDigit; congr 1 <;> (rw [decide_eq_decide]; omega)), rfl⟩
theorem eol_u (c : UInt8) (w : World) : Calls Tryz.prog 95 #[.int .u8 (c.toNat : Int)] w fun e w' => e = .returned (.bool (notEol c)) ∧ w = w' := by
  refine (eol_any c.toNat w).mono ?_
  rintro e w' ⟨rfl, rfl⟩
  refine ⟨ret_bool ?_, rfl⟩
  unfold notEol
  by_cases h : c.toNat = 10
  · simp [h]
  · have h' : ¬ (c.toNat : Int) = 10 := by omega
    simp [h, h']
theorem byte_nth (l : List UInt8) (k : Nat) (h : k < l.length) : ∀ h', (ByteArray.mk l.toArray)[k]'h' = nth 0 l k := by
  intro h'
  have e : (ByteArray.mk l.toArray)[k]'h' = l[k] := by simp [ByteArray.getElem_eq_getElem_data]
  rw [e]
  simp [nth, List.getD_eq_getElem?_getD, List.getElem?_eq_getElem h]
theorem run_letter (l : List UInt8) (w : World) (hl : l.length ≤ 140737488355328) : Calls Tryz.prog 94 #[.string ⟨l.toArray⟩, .func (.func 96) #[] #[]] w fun e w' => e = .returned (.int .i64 (runP isLetter l)) ∧ w = w' := by
  go_enter Tryz.func94, Tryz.ntmps94
  go_wp2
  go_loop [5] (fun i => ∃ k : Nat, i = .int .i64 k ∧ k ≤ l.length ∧ Hid (runP isLetter l = k + runP isLetter (l.drop k))) (fun i => l.length - (intOf i).toNat)
  case atStart => exact ⟨0, rfl, by omega, Lib.hid (by simp)⟩
  case round =>
    obtain ⟨k, rfl, hk, H⟩ := hrel
    by_cases hlt : k < l.length
    · have H' := Lib.hid (runP_drop isLetter l k hlt)
      cases hp : isLetter (nth 0 l k)
      · go_wp2_with (go_at_call 96; refine (letter_u _ _).mono ?_; rintro e w' ⟨rfl, rfl⟩; simp only [byte_nth l k hlt, hp])
        go_ret
        exact ⟨ret_int (by rw [H.out, H'.out, hp]; simp), rfl⟩
      · go_wp2_with (go_at_call 96; refine (letter_u _ _).mono ?_; rintro e w' ⟨rfl, rfl⟩; simp only [byte_nth l k hlt, hp])
        go_round
        case rel => exact ⟨k + 1, by go_num, by omega, Lib.hid (by rw [H.out, H'.out, hp]; simp; omega)⟩
        case measure => simp [intOf]; omega
    · go_wp2
      go_ret
      exact ⟨ret_int (by rw [H.out, List.drop_eq_nil_of_le (by omega)]; simp [runP]), rfl⟩
theorem run_digit (l : List UInt8) (w : World) (hl : l.length ≤ 140737488355328) : Calls Tryz.prog 94 #[.string ⟨l.toArray⟩, .func (.func 97) #[] #[]] w fun e w' => e = .returned (.int .i64 (runP isDigit l)) ∧ w = w' := by
  go_enter Tryz.func94, Tryz.ntmps94
  go_wp2
  go_loop [5] (fun i => ∃ k : Nat, i = .int .i64 k ∧ k ≤ l.length ∧ Hid (runP isDigit l = k + runP isDigit (l.drop k))) (fun i => l.length - (intOf i).toNat)
  case atStart => exact ⟨0, rfl, by omega, Lib.hid (by simp)⟩
  case round =>
    obtain ⟨k, rfl, hk, H⟩ := hrel
    by_cases hlt : k < l.length
    · have H' := Lib.hid (runP_drop isDigit l k hlt)
      cases hp : isDigit (nth 0 l k)
      · go_wp2_with (go_at_call 97; refine (digit_u _ _).mono ?_; rintro e w' ⟨rfl, rfl⟩; simp only [byte_nth l k hlt, hp])
        go_ret
        exact ⟨ret_int (by rw [H.out, H'.out, hp]; simp), rfl⟩
      · go_wp2_with (go_at_call 97; refine (digit_u _ _).mono ?_; rintro e w' ⟨rfl, rfl⟩; simp only [byte_nth l k hlt, hp])
        go_round
        case rel => exact ⟨k + 1, by go_num, by omega, Lib.hid (by rw [H.out, H'.out, hp]; simp; omega)⟩
        case measure => simp [intOf]; omega
    · go_wp2
      go_ret
      exact ⟨ret_int (by rw [H.out, List.drop_eq_nil_of_le (by omega)]; simp [runP]), rfl⟩
theorem run_eol (l : List UInt8) (w : World) (hl : l.length ≤ 140737488355328) : Calls Tryz.prog 94 #[.string ⟨l.toArray⟩, .func (.func 95) #[] #[]] w fun e w' => e = .returned (.int .i64 (runP notEol l)) ∧ w = w' := by
  go_enter Tryz.func94, Tryz.ntmps94
  go_wp2
  go_loop [5] (fun i => ∃ k : Nat, i = .int .i64 k ∧ k ≤ l.length ∧ Hid (runP notEol l = k + runP notEol (l.drop k))) (fun i => l.length - (intOf i).toNat)
  case atStart => exact ⟨0, rfl, by omega, Lib.hid (by simp)⟩
  case round =>
    obtain ⟨k, rfl, hk, H⟩ := hrel
    by_cases hlt : k < l.length
    · have H' := Lib.hid (runP_drop notEol l k hlt)
      cases hp : notEol (nth 0 l k)
      · go_wp2_with (go_at_call 95; refine (eol_u _ _).mono ?_; rintro e w' ⟨rfl, rfl⟩; simp only [byte_nth l k hlt, hp])
        go_ret
        exact ⟨ret_int (by rw [H.out, H'.out, hp]; simp), rfl⟩
      · go_wp2_with (go_at_call 95; refine (eol_u _ _).mono ?_; rintro e w' ⟨rfl, rfl⟩; simp only [byte_nth l k hlt, hp])
        go_round
        case rel => exact ⟨k + 1, by go_num, by omega, Lib.hid (by rw [H.out, H'.out, hp]; simp; omega)⟩
        case measure => simp [intOf]; omega
    · go_wp2
      go_ret
      exact ⟨ret_int (by rw [H.out, List.drop_eq_nil_of_le (by omega)]; simp [runP]), rfl⟩

theorem indexByte_any (l : List UInt8) (c : UInt8) (w : World) : Calls Tryz.prog 93 #[.string ⟨l.toArray⟩, .int .u8 (c.toNat : Int)] w fun e w' => e = .returned (.int .i64 (Lib.indexByte l c)) ∧ w = w' := by
  refine (Tryz.strings_IndexByte ⟨l.toArray⟩ c.toNat w).mono ?_
  rintro e w' ⟨rfl, rfl⟩
  exact ⟨ret_int (by simp), rfl⟩
end Go.Proofs.YtgpgmmkkmoecmaaGreatDoor

/- scan.left, number and token. -/
namespace Go.Proofs.YtgpgmmkkmoecmaaGreatDoor
open Go.RowKit

def isBlank (c : UInt8) : Bool := decide (c.toNat = 32 ∨ c.toNat = 9 ∨ c.toNat = 10)
def isSign (c : UInt8) : Bool := decide (c.toNat = 58 ∨ c.toNat = 44 ∨ c.toNat = 59)
theorem u8_eq (c : UInt8) (k : Nat) (hk : k < 256) : (UInt8.ofNat k == c) = decide (c.toNat = k) := by
  rw [Bool.eq_iff_iff, beq_iff_eq, decide_eq_true_iff]
  constructor
  · intro h; rw [← h]; simp; omega
  · intro h; rw [← h]; simp
theorem index_three (a b d : Nat) (ha : a < 256) (hb : b < 256) (hd : d < 256) (c : UInt8) : decide (0 ≤ Lib.indexByte [UInt8.ofNat a, UInt8.ofNat b, UInt8.ofNat d] c) = decide (c.toNat = a ∨ c.toNat = b ∨ c.toNat = d) := by
  simp only [Lib.indexByte, u8_eq c _ ha, u8_eq c _ hb, u8_eq c _ hd]
  by_cases h1 : c.toNat = a
  · simp [h1]
  · by_cases h2 : c.toNat = b
    · subst h2; simp [h1]
    · by_cases h3 : c.toNat = d
      · subst h3; simp [h1, h2]
      · simp [h1, h2, h3]
theorem index_blank (c : UInt8) : decide (0 ≤ Lib.indexByte [32, 9, 10] c) = isBlank c := index_three 32 9 10 (by omega) (by omega) (by omega) c
theorem index_sign (c : UInt8) : decide (0 ≤ Lib.indexByte [58, 44, 59] c) = isSign c := index_three 58 44 59 (by omega) (by omega) (by omega) c

/-- What ParseInt's errors are made of. -/
structure Env0 (w : World) : Prop where
  syn : ∃ tp p, w.var? Tryz.prog "strconv.ErrSyntax" = some #[.iface tp p]
  rng : ∃ tp p, w.var? Tryz.prog "strconv.ErrRange" = some #[.iface tp p]

theorem var_kept {P : Program} {w w' : World} {B : Nat} {name : String} {g : Nat} (hg : P.globalNamed name = some g) (hB : g < B) (hb : Below B w w') : w'.var? P name = w.var? P name := by
  simp only [World.var?, hg, Option.bind_some]
  rw [hb.block g hB]
theorem Env0.below {w w' : World} {B : Nat} (h : Env0 w) (hb : Below B w w') (hB : 8 ≤ B) : Env0 w' where
  syn := by obtain ⟨tp, p, h1⟩ := h.syn; exact ⟨tp, p, (var_kept (g := 6) (by kernel_rfl) (by omega) hb).trans h1⟩
  rng := by obtain ⟨tp, p, h1⟩ := h.rng; exact ⟨tp, p, (var_kept (g := 7) (by kernel_rfl) (by omega) hb).trans h1⟩

set_option maxRecDepth 100000 in
theorem left_any (c : UInt8) (r : List UInt8) (w : World) (hl : (c :: r).length ≤ 140737488355328) : Calls Tryz.prog 63 #[.string ⟨(c :: r).toArray⟩] w fun e w' => e = .returned (.int .i64 (leftP (c :: r))) ∧ w = w' := by
  have hb : ∀ h', (ByteArray.mk (c :: r).toArray)[0]'h' = c := byte_nth (c :: r) 0 (by simp)
  have hi := Lib.hid (index_blank c)
  have HP : Hid (leftP (c :: r) = if isBlank c = true then 1 else if c.toNat = 35 then runP notEol (c :: r) else 0) := Lib.hid (by simp [leftP, isBlank])
  have h0 : 0 < (c :: r).length := by simp
  generalize c :: r = l at *
  have hrun := Lib.hid (run_eol l w hl)
  cases hbl : isBlank c
  · have hi' : ¬ 0 ≤ Lib.indexByte [32, 9, 10] c := of_decide_eq_false (hi.out.trans hbl)
    by_cases h35 : c.toNat = 35
    · have hq : ((c.toNat : Int) == 35) = true := by simp; omega
      have H35 := Lib.hid h35
      clear h35
      go_enter Tryz.func63, Tryz.ntmps63
      go_wp2_with (first
        | (go_at_call 93; refine (indexByte_any [32, 9, 10] _ _).mono ?_; rintro e w' ⟨rfl, rfl⟩)
        | (go_at_call 94; refine hrun.out.mono ?_; rintro e w' ⟨rfl, rfl⟩))
      go_ret
      exact ⟨ret_int (by rw [HP.out, if_neg (by rw [hbl]; decide), if_pos H35.out]), rfl⟩
    · have hq : ((c.toNat : Int) == 35) = false := by simp; omega
      go_enter Tryz.func63, Tryz.ntmps63
      go_wp2_with (first
        | (go_at_call 93; refine (indexByte_any [32, 9, 10] _ _).mono ?_; rintro e w' ⟨rfl, rfl⟩)
        | (go_at_call 94; refine hrun.out.mono ?_; rintro e w' ⟨rfl, rfl⟩))
      go_ret
      exact ⟨ret_int (by rw [HP.out, if_neg (by rw [hbl]; decide), if_neg h35]; rfl), rfl⟩
  · have hi' : 0 ≤ Lib.indexByte [32, 9, 10] c := of_decide_eq_true (hi.out.trans hbl)
    have Hbl := Lib.hid hbl
    clear hbl
    go_enter Tryz.func63, Tryz.ntmps63
    go_wp2_with (first
      | (go_at_call 93; refine (indexByte_any [32, 9, 10] _ _).mono ?_; rintro e w' ⟨rfl, rfl⟩)
      | (go_at_call 94; refine hrun.out.mono ?_; rintro e w' ⟨rfl, rfl⟩))
    go_ret
    exact ⟨ret_int (by rw [HP.out, if_pos Hbl.out]; rfl), rfl⟩

theorem trim_minus (l : List UInt8) : Lib.trimPrefix l [45] = l.drop (if l.head? = some 45 then 1 else 0) := by
  cases l with
  | nil => simp [Lib.trimPrefix, Lib.hasPrefix]
  | cons c r =>
    by_cases h : c = 45
    · subst h; simp [Lib.trimPrefix, Lib.hasPrefix]
    · have h' : ¬ 45 = c := fun e => h e.symm
      simp [Lib.trimPrefix, Lib.hasPrefix, h, h']
theorem extract_take (l : List UInt8) (k : Nat) : (ByteArray.mk l.toArray).extract 0 k = ByteArray.mk (l.take k).toArray := by
  apply ByteArray.ext
  apply Array.ext'
  simp
theorem extract_drop (l : List UInt8) (k : Nat) : (ByteArray.mk l.toArray).extract k l.length = ByteArray.mk (l.drop k).toArray := by
  apply ByteArray.ext
  apply Array.ext'
  simp [List.take_of_length_le]

theorem below_bytes {w w' : World} (h : w' = w ∨ ∃ t, w' = Lib.bytesWorld w 5 t) : Below w.heap.size w w' := by
  rcases h with rfl | ⟨t, rfl⟩
  · exact Below.refl _ _
  · exact Lib.bytesWorld_below w _ t
theorem parse_ok (l : List UInt8) (v : Int) (w : World) (hl : l.length ≤ 140737488355328) (h : Lib.parseIntB 64 l = .ok v) :
    Calls Tryz.prog 158 #[.string ⟨l.toArray⟩, .int .i64 10, .int .i64 64] w fun e w' => e = .returned (.tuple #[.int .i64 v, .nilIface]) ∧ Below w.heap.size w w' :=
  (Tryz.strconv_ParseInt_10_at64_ok ⟨l.toArray⟩ (by rw [show (ByteArray.mk l.toArray).size = l.length by simp [ByteArray.size]]; omega) v h w).mono fun _ _ ⟨he, hb⟩ => ⟨he, below_bytes hb⟩
theorem parse_bad (l : List UInt8) (w : World) (hl : l.length ≤ 140737488355328) (hE : Env0 w) (h : Lib.parseIntB 64 l = Lib.parseIntB 64 [] ∨ Lib.parseIntB 64 l = .range) :
    Calls Tryz.prog 158 #[.string ⟨l.toArray⟩, .int .i64 10, .int .i64 64] w fun e w' => ∃ x N, e = .returned (.tuple #[.int .i64 x, .iface 394 (.pointer (some ⟨N, 0, none⟩))]) ∧ Below w.heap.size w w' := by
  have hs : (ByteArray.mk l.toArray).size ≤ 281474976710656 := by rw [show (ByteArray.mk l.toArray).size = l.length by simp [ByteArray.size]]; omega
  rcases h with h | h
  · obtain ⟨tp, p, hv⟩ := hE.syn
    refine (Tryz.strconv_ParseInt_10_at64_syntax_var ⟨l.toArray⟩ hs h tp p w hv).mono ?_
    rintro e w' ⟨N, rfl, _, _, hb⟩
    exact ⟨_, N, rfl, hb⟩
  · obtain ⟨tp, p, hv⟩ := hE.rng
    refine (Tryz.strconv_ParseInt_10_at64_range_var ⟨l.toArray⟩ hs h tp p w hv).mono ?_
    rintro e w' ⟨N, rfl, _, _, hb⟩
    exact ⟨_, N, rfl, hb⟩

/-- What scan.number answers. -/
def numR (l : List UInt8) : Value := match numP l with | .ok (n, k) => .tuple #[.int .i64 n, .int .i64 k, .int .i64 0] | .error x => .tuple #[.int .i64 0, .int .i64 0, .int .i64 x]

set_option maxRecDepth 100000 in
theorem number_any (l : List UInt8) (w : World) (hE : Env0 w) (hl : l.length ≤ 140737488355328) : Calls Tryz.prog 98 #[.string ⟨l.toArray⟩] w fun e w' => e = .returned (numR l) ∧ Below w.heap.size w w' := by
  obtain ⟨m, hm⟩ : ∃ m, (if l.head? = some 45 then 1 else 0) = m := ⟨_, rfl⟩
  obtain ⟨d, hd⟩ : ∃ d, l.drop m = d := ⟨_, rfl⟩
  have htr : Hid (∀ W, Calls Tryz.prog 157 #[.string ⟨l.toArray⟩, .string ⟨[45].toArray⟩] W fun e w' => e = .returned (.string ⟨d.toArray⟩) ∧ W = w') := by
    apply Lib.hid
    intro W
    refine (Tryz.strings_TrimPrefix ⟨l.toArray⟩ ⟨[45].toArray⟩ W).mono ?_
    rintro e w' ⟨rfl, rfl⟩
    exact ⟨ret_str (by rw [show (ByteArray.mk l.toArray).data.toList = l from rfl, show (ByteArray.mk [45].toArray).data.toList = [45] from rfl, trim_minus, hm, hd]), rfl⟩
  have hm1 : m ≤ 1 := by rw [← hm]; split <;> omega
  have hml : m ≤ l.length := by rw [← hm]; cases l <;> simp; split <;> omega
  have hdl : d.length + m = l.length := by rw [← hd, List.length_drop]; omega
  have hdl1 : d.length ≤ 140737488355328 := by omega
  have hrun0 := run_digit d w hdl1
  have hrl := runP_le isDigit d
  obtain ⟨k, hk⟩ : ∃ k, runP isDigit d = k := ⟨_, rfl⟩
  rw [hk] at hrun0 hrl
  have hrun := Lib.hid hrun0
  obtain ⟨ds, hds⟩ : ∃ ds, d.take k = ds := ⟨_, rfl⟩
  have hex : (ByteArray.mk d.toArray).extract 0 k = ByteArray.mk ds.toArray := by rw [extract_take, hds]
  have hdsl : ds.length = k := by rw [← hds, List.length_take]; omega
  have hnum : numP l = (if ds = [] ∨ ds.head? = some 48 ∧ 1 < ds.length + m then .error 2 else match Lib.parseIntB 64 (l.take (m + ds.length)) with | .ok v => if 1000000000000 < v ∨ v < -1000000000000 then .error 4 else .ok (v, m + ds.length) | _ => .error 4) := by
    (unfold numP; rw [hm]; show (if _ then _ else _) = _; simp only [hd, hk, hds]; try rfl)
  obtain ⟨nm, hnm⟩ : ∃ nm, l.take (m + ds.length) = nm := ⟨_, rfl⟩
  have hex2 : (ByteArray.mk l.toArray).extract 0 (m + ds.length) = ByteArray.mk nm.toArray := by rw [extract_take, hnm]
  have hml2 : m + ds.length ≤ l.length := by omega
  have hnml : nm.length ≤ 140737488355328 := by rw [← hnm, List.length_take]; omega
  rw [hnm] at hnum
  have hms : (l.length : Int) - (d.length : Int) = (m : Int) := by omega
  have HN := Lib.hid hnum
  have hkd : k ≤ d.length := hrl
  have HE := Lib.hid hE
  have hdsl1 : ds.length ≤ k := by omega
  have hdsl2 : k ≤ ds.length := by omega
  clear hm hd hdl hrl hk hds hdsl hnum hnm hrun0 hE
  cases ds with
  | nil =>
    go_enter Tryz.func98, Tryz.ntmps98
    go_wp2_with (first
      | (go_at_call 157; refine (htr.out _).mono ?_; rintro e w' ⟨rfl, rfl⟩)
      | (go_at_call 94; refine hrun.out.mono ?_; rintro e w' ⟨rfl, rfl⟩))
    go_ret3
    exact ⟨by unfold numR; rw [HN.out]; rfl, Below.refl _ _⟩
  | cons a r =>
    rw [List.length_cons] at hex2 hml2 hdsl1 hdsl2
    have ha : ∀ h', (ByteArray.mk (a :: r).toArray)[0]'h' = a := byte_nth (a :: r) 0 (by simp)
    by_cases hz : a.toNat = 48 ∧ 1 < (a :: r).length + m
    · obtain ⟨hz1, hz2⟩ := hz
      have hq : ((a.toNat : Int) == 48) = true := by simp; omega
      have hq2 : 1 < r.length + 1 + m := by simpa using hz2
      have HZ : Hid (numP l = .error 2) := Lib.hid (by
        have e : a = 48 := UInt8.toNat_inj.1 hz1
        rw [HN.out, if_pos (.inr ⟨by rw [e]; rfl, hz2⟩)])
      clear hz1 hz2
      go_enter Tryz.func98, Tryz.ntmps98
      go_wp2_with (first
        | (go_at_call 157; refine (htr.out _).mono ?_; rintro e w' ⟨rfl, rfl⟩)
        | (go_at_call 94; refine hrun.out.mono ?_; rintro e w' ⟨rfl, rfl⟩))
      go_ret3
      exact ⟨by unfold numR; rw [HZ.out]; rfl, Below.refl _ _⟩
    · have hN : numP l = match Lib.parseIntB 64 nm with | .ok v => if 1000000000000 < v ∨ v < -1000000000000 then .error 4 else .ok (v, m + (a :: r).length) | _ => .error 4 := by
        rw [HN.out, if_neg]
        rintro (h | ⟨h, h2⟩)
        · cases h
        · apply hz
          rw [List.head?_cons] at h
          injection h with h
          exact ⟨by rw [h]; rfl, h2⟩
      have HN' := Lib.hid hN
      have hzz : (a.toNat : Int) = 48 → (r.length : Int) + 1 + m ≤ 1 := by
        intro h
        have : ¬ 1 < (a :: r).length + m := fun h2 => hz ⟨by omega, h2⟩
        rw [List.length_cons] at this
        omega
      clear hz hN
      by_cases hz : a.toNat = 48
      · have hq : ((a.toNat : Int) == 48) = true := by simp; omega
        have hzl := hzz (by omega)
        clear hzz hz
        cases hp : Lib.parseIntB 64 nm with
        | ok v =>
          have hpi := Lib.hid (parse_ok nm v w (by omega) hp)
          by_cases hv : 1000000000000 < v ∨ v < -1000000000000
          · have HZ : Hid (numR l = .tuple #[.int .i64 0, .int .i64 0, .int .i64 4]) := Lib.hid (by unfold numR; rw [HN'.out, hp]; simp only [if_pos hv])
            clear hp HN'
            go_enter Tryz.func98, Tryz.ntmps98
            go_wp2_with (first
              | (go_at_call 157; refine (htr.out _).mono ?_; rintro e w' ⟨rfl, rfl⟩)
              | (go_at_call 94; refine hrun.out.mono ?_; rintro e w' ⟨rfl, rfl⟩)
              | (go_at_call 158; refine hpi.out.mono ?_; rintro e w' ⟨rfl, hb⟩; have hb' := Lib.hid hb; clear hb))
            all_goals first | (exfalso; omega) | skip
            all_goals go_ret3
            all_goals exact ⟨by rw [HZ.out]; rfl, hb'.out⟩
          · have HZ : Hid (numR l = .tuple #[.int .i64 v, .int .i64 ((m + (r.length + 1) : Nat) : Int), .int .i64 0]) := Lib.hid (by unfold numR; rw [HN'.out, hp]; simp only [if_neg hv]; rfl)
            have hv1 : v ≤ 1000000000000 := by omega
            have hv2 : -1000000000000 ≤ v := by omega
            clear hp HN' hv
            go_enter Tryz.func98, Tryz.ntmps98
            go_wp2_with (first
              | (go_at_call 157; refine (htr.out _).mono ?_; rintro e w' ⟨rfl, rfl⟩)
              | (go_at_call 94; refine hrun.out.mono ?_; rintro e w' ⟨rfl, rfl⟩)
              | (go_at_call 158; refine hpi.out.mono ?_; rintro e w' ⟨rfl, hb⟩; have hb' := Lib.hid hb; clear hb))
            go_ret3
            exact ⟨by rw [HZ.out]; go_num, hb'.out⟩
        | range =>
          have hpi := Lib.hid (parse_bad nm w (by omega) HE.out (.inr hp))
          have HZ : Hid (numR l = .tuple #[.int .i64 0, .int .i64 0, .int .i64 4]) := Lib.hid (by unfold numR; rw [HN'.out, hp])
          clear hp HN'
          go_enter Tryz.func98, Tryz.ntmps98
          go_wp2_with (first
            | (go_at_call 157; refine (htr.out _).mono ?_; rintro e w' ⟨rfl, rfl⟩)
            | (go_at_call 94; refine hrun.out.mono ?_; rintro e w' ⟨rfl, rfl⟩)
            | (go_at_call 158; refine hpi.out.mono ?_; rintro e w' ⟨x, N, rfl, hb⟩; have hb' := Lib.hid hb; clear hb))
          go_ret3
          exact ⟨by rw [HZ.out]; rfl, hb'.out⟩
        | _ =>
          have hpi := Lib.hid (parse_bad nm w (by omega) HE.out (.inl hp))
          have HZ : Hid (numR l = .tuple #[.int .i64 0, .int .i64 0, .int .i64 4]) := Lib.hid (by unfold numR; rw [HN'.out, hp])
          clear hp HN'
          go_enter Tryz.func98, Tryz.ntmps98
          go_wp2_with (first
            | (go_at_call 157; refine (htr.out _).mono ?_; rintro e w' ⟨rfl, rfl⟩)
            | (go_at_call 94; refine hrun.out.mono ?_; rintro e w' ⟨rfl, rfl⟩)
            | (go_at_call 158; refine hpi.out.mono ?_; rintro e w' ⟨x, N, rfl, hb⟩; have hb' := Lib.hid hb; clear hb))
          go_ret3
          exact ⟨by rw [HZ.out]; rfl, hb'.out⟩
      · have hq : ((a.toNat : Int) == 48) = false := by simp; omega
        clear hzz hz
        cases hp : Lib.parseIntB 64 nm with
        | ok v =>
          have hpi := Lib.hid (parse_ok nm v w (by omega) hp)
          by_cases hv : 1000000000000 < v ∨ v < -1000000000000
          · have HZ : Hid (numR l = .tuple #[.int .i64 0, .int .i64 0, .int .i64 4]) := Lib.hid (by unfold numR; rw [HN'.out, hp]; simp only [if_pos hv])
            clear hp HN'
            go_enter Tryz.func98, Tryz.ntmps98
            go_wp2_with (first
              | (go_at_call 157; refine (htr.out _).mono ?_; rintro e w' ⟨rfl, rfl⟩)
              | (go_at_call 94; refine hrun.out.mono ?_; rintro e w' ⟨rfl, rfl⟩)
              | (go_at_call 158; refine hpi.out.mono ?_; rintro e w' ⟨rfl, hb⟩; have hb' := Lib.hid hb; clear hb))
            all_goals first | (exfalso; omega) | skip
            all_goals go_ret3
            all_goals exact ⟨by rw [HZ.out]; rfl, hb'.out⟩
          · have HZ : Hid (numR l = .tuple #[.int .i64 v, .int .i64 ((m + (r.length + 1) : Nat) : Int), .int .i64 0]) := Lib.hid (by unfold numR; rw [HN'.out, hp]; simp only [if_neg hv]; rfl)
            have hv1 : v ≤ 1000000000000 := by omega
            have hv2 : -1000000000000 ≤ v := by omega
            clear hp HN' hv
            go_enter Tryz.func98, Tryz.ntmps98
            go_wp2_with (first
              | (go_at_call 157; refine (htr.out _).mono ?_; rintro e w' ⟨rfl, rfl⟩)
              | (go_at_call 94; refine hrun.out.mono ?_; rintro e w' ⟨rfl, rfl⟩)
              | (go_at_call 158; refine hpi.out.mono ?_; rintro e w' ⟨rfl, hb⟩; have hb' := Lib.hid hb; clear hb))
            go_ret3
            exact ⟨by rw [HZ.out]; go_num, hb'.out⟩
        | range =>
          have hpi := Lib.hid (parse_bad nm w (by omega) HE.out (.inr hp))
          have HZ : Hid (numR l = .tuple #[.int .i64 0, .int .i64 0, .int .i64 4]) := Lib.hid (by unfold numR; rw [HN'.out, hp])
          clear hp HN'
          go_enter Tryz.func98, Tryz.ntmps98
          go_wp2_with (first
            | (go_at_call 157; refine (htr.out _).mono ?_; rintro e w' ⟨rfl, rfl⟩)
            | (go_at_call 94; refine hrun.out.mono ?_; rintro e w' ⟨rfl, rfl⟩)
            | (go_at_call 158; refine hpi.out.mono ?_; rintro e w' ⟨x, N, rfl, hb⟩; have hb' := Lib.hid hb; clear hb))
          go_ret3
          exact ⟨by rw [HZ.out]; rfl, hb'.out⟩
        | _ =>
          have hpi := Lib.hid (parse_bad nm w (by omega) HE.out (.inl hp))
          have HZ : Hid (numR l = .tuple #[.int .i64 0, .int .i64 0, .int .i64 4]) := Lib.hid (by unfold numR; rw [HN'.out, hp])
          clear hp HN'
          go_enter Tryz.func98, Tryz.ntmps98
          go_wp2_with (first
            | (go_at_call 157; refine (htr.out _).mono ?_; rintro e w' ⟨rfl, rfl⟩)
            | (go_at_call 94; refine hrun.out.mono ?_; rintro e w' ⟨rfl, rfl⟩)
            | (go_at_call 158; refine hpi.out.mono ?_; rintro e w' ⟨x, N, rfl, hb⟩; have hb' := Lib.hid hb; clear hb))
          go_ret3
          exact ⟨by rw [HZ.out]; rfl, hb'.out⟩
end Go.Proofs.YtgpgmmkkmoecmaaGreatDoor

/- scan.token. -/
namespace Go.Proofs.YtgpgmmkkmoecmaaGreatDoor
open Go.RowKit

def tokV (t : Tok) : Value := .agg #[.int .i64 t.kind, .string ⟨t.text.toArray⟩, .int .i64 t.n, .int .i64 t.at_]
/-- What scan.token answers. -/
def TokPost (l : List UInt8) (e : Ending) : Prop :=
  match tokenP l with
  | .ok (t, k) => e = .returned (.tuple #[tokV t, .int .i64 k, .int .i64 0])
  | .error x => ∃ t, e = .returned (.tuple #[tokV t, .int .i64 0, .int .i64 x])

set_option maxRecDepth 100000 in
theorem token_sign (c : UInt8) (r : List UInt8) (w : World) (hl : (c :: r).length ≤ 140737488355328) (hs : isSign c = true) : Calls Tryz.prog 64 #[.string ⟨(c :: r).toArray⟩] w fun e w' => TokPost (c :: r) e ∧ Below w.heap.size w w' := by
  have hP : tokenP (c :: r) = .ok (⟨3, [c], 0, 0⟩, 1) := by
    simp only [tokenP]; rw [if_pos (of_decide_eq_true hs)]
  have hb : ∀ h', (ByteArray.mk (c :: r).toArray)[0]'h' = c := byte_nth (c :: r) 0 (by simp)
  have hi : 0 ≤ Lib.indexByte [58, 44, 59] c := of_decide_eq_true ((index_sign c).trans hs)
  have hx : (ByteArray.mk (c :: r).toArray).extract 0 1 = ByteArray.mk [c].toArray := by rw [extract_take]; rfl
  have h0 : 1 ≤ (c :: r).length := by simp
  have HP : Hid (∀ e, TokPost (c :: r) e ↔ e = .returned (.tuple #[.agg #[.int .i64 3, .string ⟨[c].toArray⟩, .int .i64 0, .int .i64 0], .int .i64 1, .int .i64 0])) := Lib.hid (by intro e; unfold TokPost; rw [hP]; exact Iff.rfl)
  clear hs hP
  generalize c :: r = l at *
  go_enter Tryz.func64, Tryz.ntmps64
  go_wp2_with (go_at_call 93; refine (indexByte_any [58, 44, 59] _ _).mono ?_; rintro e w' ⟨rfl, rfl⟩)
  refine bodyPost_ret (v := .tuple #[.agg #[.int .i64 3, .string ⟨[c].toArray⟩, .int .i64 0, .int .i64 0], .int .i64 1, .int .i64 0]) (by simp [results, Tryz.results64, go_sem]) rfl ?_
  exact ⟨(HP.out _).2 rfl, (below_alloc1 _ _)⟩

theorem not_sign {c : UInt8} (h : isSign c = false) : ¬ (c.toNat = 58 ∨ c.toNat = 44 ∨ c.toNat = 59) := of_decide_eq_false h
set_option maxRecDepth 100000 in
theorem token_word (c : UInt8) (r : List UInt8) (w : World) (hl : (c :: r).length ≤ 140737488355328) (hs : isSign c = false) (hw : isLetter c = true) : Calls Tryz.prog 64 #[.string ⟨(c :: r).toArray⟩] w fun e w' => TokPost (c :: r) e ∧ Below w.heap.size w w' := by
  have hP : tokenP (c :: r) = .ok (⟨1, (c :: r).take (runP isLetter (c :: r)), 0, 0⟩, runP isLetter (c :: r)) := by
    simp only [tokenP]; rw [if_neg (not_sign hs), if_pos hw]
  have hb : ∀ h', (ByteArray.mk (c :: r).toArray)[0]'h' = c := byte_nth (c :: r) 0 (by simp)
  have hi : ¬ 0 ≤ Lib.indexByte [58, 44, 59] c := of_decide_eq_false ((index_sign c).trans hs)
  have h0 : 1 ≤ (c :: r).length := by simp
  have HP : Hid (∀ e, TokPost (c :: r) e ↔ e = .returned (.tuple #[.agg #[.int .i64 1, .string ⟨((c :: r).take (runP isLetter (c :: r))).toArray⟩, .int .i64 0, .int .i64 0], .int .i64 (runP isLetter (c :: r)), .int .i64 0])) := Lib.hid (by intro e; unfold TokPost; rw [hP]; exact Iff.rfl)
  clear hs hP
  generalize c :: r = l at *
  have hrun0 := fun W => run_letter l W hl
  have hrl := runP_le isLetter l
  have hex := extract_take l (runP isLetter l)
  generalize runP isLetter l = k at *
  have hrun := Lib.hid hrun0
  clear hrun0
  go_enter Tryz.func64, Tryz.ntmps64
  go_wp2_with (first
    | (go_at_call 93; refine (indexByte_any [58, 44, 59] _ _).mono ?_; rintro e w' ⟨rfl, rfl⟩)
    | (go_at_call 96; refine (letter_u _ _).mono ?_; rintro e w' ⟨rfl, rfl⟩; rw [hw])
    | (go_at_call 94; refine (hrun.out _).mono ?_; rintro e w' ⟨rfl, rfl⟩))
  refine bodyPost_ret (v := .tuple #[.agg #[.int .i64 1, .string ⟨(l.take k).toArray⟩, .int .i64 0, .int .i64 0], .int .i64 k, .int .i64 0]) (by simp [results, Tryz.results64, go_sem]) rfl ?_
  exact ⟨(HP.out _).2 rfl, (below_alloc1 _ _)⟩
set_option maxRecDepth 100000 in
theorem token_bad (c : UInt8) (r : List UInt8) (w : World) (hl : (c :: r).length ≤ 140737488355328) (hs : isSign c = false) (hw : isLetter c = false) (hd : isDigit c = false) (hm : ¬ c.toNat = 45) : Calls Tryz.prog 64 #[.string ⟨(c :: r).toArray⟩] w fun e w' => TokPost (c :: r) e ∧ Below w.heap.size w w' := by
  have hP : tokenP (c :: r) = .error 2 := by
    simp only [tokenP]; rw [if_neg (not_sign hs), if_neg (by rw [hw]; decide), if_neg (by rw [hd]; simpa using hm)]
  have hb : ∀ h', (ByteArray.mk (c :: r).toArray)[0]'h' = c := byte_nth (c :: r) 0 (by simp)
  have hi : ¬ 0 ≤ Lib.indexByte [58, 44, 59] c := of_decide_eq_false ((index_sign c).trans hs)
  have h0 : 1 ≤ (c :: r).length := by simp
  have hq : ((c.toNat : Int) == 45) = false := by simp; omega
  have HP : Hid (∀ e, TokPost (c :: r) e ↔ ∃ t, e = .returned (.tuple #[tokV t, .int .i64 0, .int .i64 2])) := Lib.hid (by intro e; unfold TokPost; rw [hP])
  clear hs hP hm
  generalize c :: r = l at *
  go_enter Tryz.func64, Tryz.ntmps64
  go_wp2_with (first
    | (go_at_call 93; refine (indexByte_any [58, 44, 59] _ _).mono ?_; rintro e w' ⟨rfl, rfl⟩)
    | (go_at_call 96; refine (letter_u _ _).mono ?_; rintro e w' ⟨rfl, rfl⟩; rw [hw])
    | (go_at_call 97; refine (digit_u _ _).mono ?_; rintro e w' ⟨rfl, rfl⟩; rw [hd]))
  refine bodyPost_ret (v := .tuple #[.agg #[.int .i64 0, .string ⟨#[]⟩, .int .i64 0, .int .i64 0], .int .i64 0, .int .i64 2]) (by simp [results, Tryz.results64, go_sem]) rfl ?_
  exact ⟨(HP.out _).2 ⟨⟨0, [], 0, 0⟩, rfl⟩, (below_alloc1 _ _)⟩
set_option maxRecDepth 100000 in
theorem token_num (c : UInt8) (r : List UInt8) (w : World) (hE : Env0 w) (h8 : 8 ≤ w.heap.size) (hl : (c :: r).length ≤ 140737488355328) (hs : isSign c = false) (hw : isLetter c = false) (hd : isDigit c = true ∨ c.toNat = 45) : Calls Tryz.prog 64 #[.string ⟨(c :: r).toArray⟩] w fun e w' => TokPost (c :: r) e ∧ Below w.heap.size w w' := by
  have hP : tokenP (c :: r) = match numP (c :: r) with | .ok (n, k) => .ok (⟨2, [], n, 0⟩, k) | .error e => .error e := by
    simp only [tokenP]; rw [if_neg (not_sign hs), if_neg (by rw [hw]; decide), if_pos hd]; try rfl
  have hb : ∀ h', (ByteArray.mk (c :: r).toArray)[0]'h' = c := byte_nth (c :: r) 0 (by simp)
  have hi : ¬ 0 ≤ Lib.indexByte [58, 44, 59] c := of_decide_eq_false ((index_sign c).trans hs)
  have h0 : 1 ≤ (c :: r).length := by simp
  have hq : isDigit c = false → ((c.toNat : Int) == 45) = true := by intro h; rcases hd with h' | h'; (rw [h] at h'; cases h'); simp [h']
  have HP : Hid (∃ n k x, numR (c :: r) = .tuple #[.int .i64 n, .int .i64 k, .int .i64 x] ∧ TokPost (c :: r) (.returned (.tuple #[.agg #[.int .i64 2, .string ⟨#[]⟩, .int .i64 n, .int .i64 0], .int .i64 k, .int .i64 x]))) := by
    apply Lib.hid
    unfold TokPost numR
    rw [hP]
    cases hn : numP (c :: r) with
    | ok p => obtain ⟨n, k⟩ := p; exact ⟨n, k, 0, rfl, rfl⟩
    | error x => exact ⟨0, 0, x, rfl, ⟨⟨2, [], 0, 0⟩, rfl⟩⟩
  clear hs hP hd
  have hE' : Env0 (w.alloc (.cells #[.int .i64 2, .string ⟨#[]⟩, .int .i64 0, .int .i64 0] 82)) := hE.below (below_alloc1 _ _) h8
  generalize c :: r = l at *
  obtain ⟨n, k, x, hn, hpost⟩ := HP.out
  have hcall0 := number_any l _ hE' hl
  rw [hn] at hcall0
  have hcall := Lib.hid hcall0
  have HQ := Lib.hid hpost
  clear hn hpost HP hcall0 hE'
  cases hdig : isDigit c
  · have hq' := hq hdig
    clear hq
    go_enter Tryz.func64, Tryz.ntmps64
    go_wp2_with (first
      | (go_at_call 93; refine (indexByte_any [58, 44, 59] _ _).mono ?_; rintro e w' ⟨rfl, rfl⟩)
      | (go_at_call 96; refine (letter_u _ _).mono ?_; rintro e w' ⟨rfl, rfl⟩; rw [hw])
      | (go_at_call 97; refine (digit_u _ _).mono ?_; rintro e w' ⟨rfl, rfl⟩; rw [hdig])
      | (go_at_call 98; refine hcall.out.mono ?_; rintro e W ⟨rfl, hb⟩; (have hblk := block_kept hb (heap_alloc_new w _)); (have c0 := cell_at hblk (i := 0) rfl); (have c1 := cell_at hblk (i := 1) rfl); (have c2 := cell_at hblk (i := 2) rfl); (have c3 := cell_at hblk (i := 3) rfl); (have f0 := Lib.frozen_of_heap hblk 0); (have f1 := Lib.frozen_of_heap hblk 1); (have f2 := Lib.frozen_of_heap hblk 2); (have f3 := Lib.frozen_of_heap hblk 3); (have hb' := Lib.hid hb); clear hb hblk))
    refine bodyPost_ret (v := .tuple #[.agg #[.int .i64 2, .string ⟨#[]⟩, .int .i64 n, .int .i64 0], .int .i64 k, .int .i64 x]) (by simp [results, Tryz.results64, go_sem, *]) rfl ?_
    refine ⟨HQ.out, ?_⟩
    have hbb := below_next (below_alloc1 w (.cells #[.int .i64 2, .string ⟨#[]⟩, .int .i64 0, .int .i64 0] 82)) hb'.out
    exact (((((hbb.setCell (p := ⟨w.heap.size, 2, none⟩) (Nat.le_refl _) _).setCell (p := ⟨w.heap.size, 0, none⟩) (Nat.le_refl _) _).setCell (p := ⟨w.heap.size, 1, none⟩) (Nat.le_refl _) _).setCell (p := ⟨w.heap.size, 2, none⟩) (Nat.le_refl _) _).setCell (p := ⟨w.heap.size, 3, none⟩) (Nat.le_refl _) _)
  · clear hq
    go_enter Tryz.func64, Tryz.ntmps64
    go_wp2_with (first
      | (go_at_call 93; refine (indexByte_any [58, 44, 59] _ _).mono ?_; rintro e w' ⟨rfl, rfl⟩)
      | (go_at_call 96; refine (letter_u _ _).mono ?_; rintro e w' ⟨rfl, rfl⟩; rw [hw])
      | (go_at_call 97; refine (digit_u _ _).mono ?_; rintro e w' ⟨rfl, rfl⟩; rw [hdig])
      | (go_at_call 98; refine hcall.out.mono ?_; rintro e W ⟨rfl, hb⟩; (have hblk := block_kept hb (heap_alloc_new w _)); (have c0 := cell_at hblk (i := 0) rfl); (have c1 := cell_at hblk (i := 1) rfl); (have c2 := cell_at hblk (i := 2) rfl); (have c3 := cell_at hblk (i := 3) rfl); (have f0 := Lib.frozen_of_heap hblk 0); (have f1 := Lib.frozen_of_heap hblk 1); (have f2 := Lib.frozen_of_heap hblk 2); (have f3 := Lib.frozen_of_heap hblk 3); (have hb' := Lib.hid hb); clear hb hblk))
    refine bodyPost_ret (v := .tuple #[.agg #[.int .i64 2, .string ⟨#[]⟩, .int .i64 n, .int .i64 0], .int .i64 k, .int .i64 x]) (by simp [results, Tryz.results64, go_sem, *]) rfl ?_
    refine ⟨HQ.out, ?_⟩
    have hbb := below_next (below_alloc1 w (.cells #[.int .i64 2, .string ⟨#[]⟩, .int .i64 0, .int .i64 0] 82)) hb'.out
    exact (((((hbb.setCell (p := ⟨w.heap.size, 2, none⟩) (Nat.le_refl _) _).setCell (p := ⟨w.heap.size, 0, none⟩) (Nat.le_refl _) _).setCell (p := ⟨w.heap.size, 1, none⟩) (Nat.le_refl _) _).setCell (p := ⟨w.heap.size, 2, none⟩) (Nat.le_refl _) _).setCell (p := ⟨w.heap.size, 3, none⟩) (Nat.le_refl _) _)

theorem token_any (c : UInt8) (r : List UInt8) (w : World) (hE : Env0 w) (h8 : 8 ≤ w.heap.size) (hl : (c :: r).length ≤ 140737488355328) : Calls Tryz.prog 64 #[.string ⟨(c :: r).toArray⟩] w fun e w' => TokPost (c :: r) e ∧ Below w.heap.size w w' := by
  cases hs : isSign c
  · cases hw : isLetter c
    · by_cases hd : isDigit c = true ∨ c.toNat = 45
      · exact token_num c r w hE h8 hl hs hw hd
      · have h1 : isDigit c = false := Bool.eq_false_iff.2 fun h => hd (.inl h)
        exact token_bad c r w hl hs hw h1 fun h => hd (.inr h)
    · exact token_word c r w hl hs hw
  · exact token_sign c r w hl hs
theorem token_ok (c : UInt8) (r : List UInt8) (w : World) (hE : Env0 w) (h8 : 8 ≤ w.heap.size) (hl : (c :: r).length ≤ 140737488355328) {t : Tok} {k : Nat} (h : tokenP (c :: r) = .ok (t, k)) :
    Calls Tryz.prog 64 #[.string ⟨(c :: r).toArray⟩] w fun e w' => e = .returned (.tuple #[.agg #[.int .i64 t.kind, .string ⟨t.text.toArray⟩, .int .i64 t.n, .int .i64 t.at_], .int .i64 k, .int .i64 0]) ∧ Below w.heap.size w w' := by
  refine (token_any c r w hE h8 hl).mono ?_
  rintro e w' ⟨hp, hb⟩
  unfold TokPost at hp
  rw [h] at hp
  exact ⟨hp, hb⟩
theorem token_err (c : UInt8) (r : List UInt8) (w : World) (hE : Env0 w) (h8 : 8 ≤ w.heap.size) (hl : (c :: r).length ≤ 140737488355328) {x : Int} (h : tokenP (c :: r) = .error x) :
    Calls Tryz.prog 64 #[.string ⟨(c :: r).toArray⟩] w fun e w' => (∃ k0 t0 n0 a0, e = .returned (.tuple #[.agg #[.int .i64 k0, .string t0, .int .i64 n0, .int .i64 a0], .int .i64 0, .int .i64 x])) ∧ Below w.heap.size w w' := by
  refine (token_any c r w hE h8 hl).mono ?_
  rintro e w' ⟨hp, hb⟩
  unfold TokPost at hp
  rw [h] at hp
  obtain ⟨t, hp⟩ := hp
  exact ⟨⟨_, _, _, _, hp⟩, hb⟩
end Go.Proofs.YtgpgmmkkmoecmaaGreatDoor

/- scan.All. -/
namespace Go.Proofs.YtgpgmmkkmoecmaaGreatDoor
open Go.RowKit

/-- A row of tokens. -/
abbrev kTok : Kd Tok := Kd.iso (Kd.pair (Kd.int .i64) (Kd.pair Kd.str (Kd.pair (Kd.int .i64) (Kd.int .i64)))) (fun t => (t.kind, ⟨t.text.toArray⟩, t.n, t.at_))
def tokC (t : Tok) : List Value := [.int .i64 t.kind, .string ⟨t.text.toArray⟩, .int .i64 t.n, .int .i64 t.at_]
theorem kTok_mk {w : World} {ok : Nat → Prop} (t : Tok) : kTok.K w ok t (tokC t) := ⟨[_], [_, _, _], rfl, rfl, [_], [_, _], rfl, rfl, [_], [_], rfl, rfl, rfl⟩

/-- A row of the call's own, of elements that lead nowhere: the tokens that are told so far. -/
def OwnTok (base : Nat) (v : Value) (ts : List Tok) (w : World) : Prop := w.ownsRow base 82 4 v ts.length (ts.flatMap tokC)
theorem flat_tok (ts : List Tok) : ∀ (j : Nat) (t : Tok), ts[j]? = some t → ∀ i u, (tokC t)[i]? = some u → (ts.flatMap tokC)[j * 4 + i]? = some u := by
  induction ts with
  | nil => intro j t h; simp at h
  | cons a r ih =>
    intro j t h i u hu
    rw [List.flatMap_cons]
    cases j with
    | zero =>
      simp at h; subst h
      have hi : i < (tokC a).length := (List.getElem?_eq_some_iff.1 hu).1
      rw [Nat.zero_mul, Nat.zero_add, List.getElem?_append_left hi]; exact hu
    | succ j =>
      simp at h
      rw [List.getElem?_append_right (by simp [tokC]; omega), show (j + 1) * 4 + i - (tokC a).length = j * 4 + i by simp [tokC]; omega]
      exact ih j t h i u hu
theorem OwnTok.sl {base : Nat} {v : Value} {ts : List Tok} {w : World} (h : OwnTok base v ts w) (hl : ts.length ≤ 140737488355328) : Sl kTok w (base ≤ ·) v ts := by
  rcases h.2 with ⟨rfl, h0⟩ | ⟨g, cap, cur, rfl, hb, hg, hnc, hcm, hcs, ht⟩
  · obtain rfl : ts = [] := List.eq_nil_of_length_eq_zero h0
    exact ⟨none, 0, rfl, Nat.le_refl _, by simp, fun j x hx => by simp at hx⟩
  · refine ⟨_, cap, rfl, hnc, hl, fun j t hj => ⟨g, 0, tokC t, rfl, hb, kTok_mk t, fun i u hu => ?_⟩⟩
    have hc := h.cells (g := g) rfl (j * 4 + i) u (flat_tok ts j t hj i u hu)
    have e : (⟨g, 0, none⟩ : Addr).add (j * 4 + i) = ⟨g, 0 + (j * 4 + i), none⟩ := by unfold Addr.add; split <;> simp_all
    rw [e] at hc
    exact hc

theorem own_lower {w : World} {base base' : Nat} {e : TypeId} {size n : Nat} {v : Value} {xs : List Value} (h : w.ownsRow base e size v n xs) (hb : base' ≤ base) : w.ownsRow base' e size v n xs := by
  obtain ⟨h1, h2⟩ := h
  refine ⟨h1, ?_⟩
  rcases h2 with h2 | ⟨g, cap, cur, hv, hg, r⟩
  · exact .inl h2
  · exact .inr ⟨g, cap, cur, hv, Nat.le_trans hb hg, r⟩
theorem own_below {w w1 : World} {base : Nat} {e : TypeId} {size n : Nat} {v : Value} {xs : List Value} (h : w.ownsRow base e size v n xs) (hb : Below w.heap.size w w1) : w1.ownsRow base e size v n xs :=
  h.kept (row := none) ⟨hb.os, hb.tape, hb.output, hb.size, fun k hk _ => hb.block k hk⟩ (by cases v.ownBlock <;> simp)
theorem tok_snoc (ts : List Tok) (t : Tok) : (ts ++ [t]).flatMap tokC = ts.flatMap tokC ++ tokC t := by simp
theorem tok_one (t : Tok) : ∀ u ∈ tokC t, u.oneCell' = true := fun u hu => kTok.one (w := default) (ok := fun _ => True) (kTok_mk t) u hu
/-- A struct stored into a block of its own: the world behind it by its facts alone. -/
theorem wpList_store_abs {P : Program} {ops : Array Oper} {rest : List Oper} {o : Oper} {a : Act} {w : World} {Q : Exit → Act → World → Prop} (hgd : o.guard = none) (ty : TypeId) (x y : Operand) (ho : o.op = .store ty x y)
    (g : Nat) (cells : Array Value) (hx : a.eval x = .pointer (some ⟨g, 0, none⟩)) (hy : a.eval y = .agg cells)
    (t : TypeId) (old : Array Value) (hg : w.heap[g]? = some (.cells old t (0, 0))) (hi : (P.info? ty).map (·.size) = some cells.size)
    (hold : old.size = cells.size) (h1 : cells.all (·.oneCell') = true)
    (h : ∀ W, W.heap[g]? = some (.cells cells t (0, 0)) → w.grownBy W (some g) → wpList P ops Q rest (a.put o.dst undef) W) : wpList P ops Q (o :: rest) a w := by
  refine wpList_store_row hgd ty x y ho g cells hx hy t old hg hi hold h1 (h _ ?_ ?_)
  · simp [World.setRow, Array.getElem?_modify, hg]
  · refine ⟨rfl, rfl, rfl, by simp [World.setRow], fun k _ hk => ?_⟩
    simp only [World.setRow, Array.getElem?_modify]
    rw [if_neg (fun e => hk (by rw [e]))]
theorem own_ne {w : World} {base : Nat} {e : TypeId} {size n : Nat} {v : Value} {xs : List Value} (h : w.ownsRow base e size v n xs) {g : Nat} (hg : g < base) : v.ownBlock = none ∨ v.ownBlock ≠ some g := by
  cases hv : v.ownBlock with
  | none => exact .inl rfl
  | some k => exact .inr fun e => by injection e with e; have := (h.lt k hv).1; omega
theorem Below.grownAt {B : Nat} {a w w' : World} {g : Nat} (h : Below B a w) (hg : w.grownBy w' (some g)) (hw : B ≤ w.heap.size) (hB : B ≤ g) : Below B a w' :=
  h.grown hg hw (fun k hk => by injection hk with hk; omega)
theorem grown_setCell3 (W : World) (g i : Nat) (v : Value) : W.grownBy (W.setCell ⟨g, i, none⟩ v) (some g) :=
  ⟨rfl, rfl, rfl, by simp [World.setCell], fun k _ hk => Go.Deep.blk_setCell_other _ _ _ _ (fun e => hk (by rw [e]))⟩
theorem heap_setCell3 {W : World} {g : Nat} {a b c d : Value} {t : TypeId} (h : W.heap[g]? = some (.cells #[a, b, c, d] t (0, 0))) (x : Value) : (W.setCell ⟨g, 3, none⟩ x).heap[g]? = some (.cells #[a, b, c, x] t (0, 0)) := by
  simp [World.setCell, Array.getElem?_modify, h]
theorem preP_nil (x : Except (Nat × Int) (List Tok)) : preP [] x = x := by cases x <;> rfl
theorem wp_scope_jumps2 {P : Program} {a : Act} {w : World} {Q : Exit → Act → World → Prop} {c rest : Code} (l : Nat) (J : Act → World → Prop) (μ : Act → World → Nat) (hf : findLabel c l = some (Code.seq Code.skip rest))
    (pass : ∀ a w, J a w → rest.wp P (Exit.jump l (fun a' w' => J a' w' ∧ μ a' w' < μ a w) Q) a w)
    (first : (∀ a w, J a w → rest.wp P (Exit.jump l J Q) a w) → c.wp P (Exit.jump l J Q) a w) : (Code.scope c).wp P Q a w :=
  wp_scope_jumps l J μ hf (first fun a w h => wp_mono (pass a w h) fun e a' w' hq => by
    cases e with
    | goto l' => exact ⟨hq.1, hq.2.1⟩
    | _ => exact hq) fun a w h => wp_seq (wp_skip (pass a w h))

set_option maxRecDepth 100000 in
set_option maxHeartbeats 10000000 in
theorem all_any (l : List UInt8) (w : World) (hE : Env0 w) (h8 : 8 ≤ w.heap.size) (hl : l.length ≤ 140737488355328) : Calls Tryz.prog 34 #[.string ⟨l.toArray⟩] w fun e w' =>
    (match allP l with
      | .ok ts => ∃ v, e = .returned (.tuple #[v, .int .i64 0, .int .i64 0]) ∧ OwnTok w.heap.size v ts w' ∧ ts.length ≤ 100001
      | .error (p, x) => e = .returned (.tuple #[.slice none 0 0, .int .i64 p, .int .i64 x])) ∧ Below w.heap.size w w' := by
  by_cases hbig : 100000 < l.length
  · have hP : allP l = .error (0, 7) := by unfold allP; rw [if_pos hbig]
    rw [hP]
    go_enter Tryz.func34, Tryz.ntmps34
    go_wp2
    refine wp_scope_straight ?_
    go_wp2
    rw [Exit.noGoto_ret]
    go_ret3
    exact ⟨rfl, Below.refl _ _⟩
  · have hsm : l.length ≤ 100000 := by omega
    have hP : allP l = scanQ 0 l := by unfold allP scanQ; rw [if_neg hbig]
    have HP := Lib.hid hP
    have HE := Lib.hid hE
    clear hP hbig hE
    go_enter Tryz.func34, Tryz.ntmps34
    go_wp2
    refine wp_scope_jumps2 0 (fun a' wr => ∃ (P K : Int) (q : Nat) (ts : List Tok) (v : Value) (x0 : Int) (x1 : ByteArray) (x2 x3 : Int) (u7 u8 u9 u10 u11 u12 u13 u14 u15 u16 u17 u18 u19 u20 u21 u22 u23 u24 u25 u26 u27 u28 u29 u30 u31 u32 u33 u34 u35 u36 u37 u38 u39 u40 u41 u42 u43 u44 u45 u46 : Value), a' = { tmps := #[.string ⟨l.toArray⟩, undef, v, .int .i64 P, .int .i64 0, .pointer (some ⟨w.heap.size, 0, none⟩), .int .i64 K, u7, u8, u9, u10, u11, u12, u13, u14, u15, u16, u17, u18, u19, u20, u21, u22, u23, u24, u25, u26, u27, u28, u29, u30, u31, u32, u33, u34, u35, u36, u37, u38, u39, u40, u41, u42, u43, u44, u45, u46], defers := [] } ∧ 0 ≤ P ∧ 0 ≤ K ∧ Hid (P + K = q) ∧ q ≤ l.length ∧ ts.length ≤ q ∧ Hid (allP l = preP ts (scanQ q (l.drop q))) ∧ Hid (OwnTok (w.heap.size + 1) v ts wr) ∧ Hid (wr.heap[w.heap.size]? = some (.cells #[.int .i64 x0, .string x1, .int .i64 x2, .int .i64 x3] 82 (0, 0))) ∧ Hid (Below w.heap.size w wr)) (fun a' _ => l.length - ((intOf (a'.tmps.getD 3 undef)).toNat + (intOf (a'.tmps.getD 6 undef)).toNat)) rfl ?_ ?_
    · rintro a' wr ⟨P, K, q, ts, v, x0, x1, x2, x3, u7, u8, u9, u10, u11, u12, u13, u14, u15, u16, u17, u18, u19, u20, u21, u22, u23, u24, u25, u26, u27, u28, u29, u30, u31, u32, u33, u34, u35, u36, u37, u38, u39, u40, u41, u42, u43, u44, u45, u46, rfl, hP0, hK0, HQ, hql, htl, H, HO, HX, HB⟩
      obtain ⟨i0, hi, hz0, hz1, hz2⟩ := info_parts (show (Tryz.prog.info? 82).map (fun i => (i.zero, i.size, i.bytes)) = some (some (.agg #[.int .i64 0, .string ⟨#[]⟩, .int .i64 0, .int .i64 0]), 4, 40) by kernel_rfl)
      have hwb : w.heap.size + 1 ≤ wr.heap.size := by have := lt_of_block HX.out; omega
      by_cases hend : q = l.length
      · have hq : P + K = (l.length : Int) := by rw [HQ.out, hend]
        have HF : Hid (allP l = .ok (ts ++ [⟨4, [], 0, l.length⟩])) := Lib.hid (by rw [H.out, hend, List.drop_length, scanQ_nil]; rfl)
        clear hend H
        go_wp2_with (at_builtin; refine wpList_append_own_at _ rfl _ _ 73 rfl (w.heap.size + 1) 82 i0 _ 4 40 Tryz.underlying73 hi hz0 hz1 hz2 rfl (by decide) _ _ _ rfl (HO.out.alloc _) ⟨wr.heap.size, 0, none⟩ 1 1 (tokC ⟨4, [], 0, l.length⟩) rfl rfl ?c1 ?c2 ?c3 ?c4 ?c5 ?_)
        case c1 => exact World.news_of_block (cs := (tokC ⟨4, [], 0, l.length⟩).toArray) (t := 82) (fr := (0, 0)) (heap_alloc_new wr _)
        case c2 => exact tok_one _
        case c3 => unfold maxLen; omega
        case c4 => omega
        case c5 => simp; omega
        intro v' w2 hown' hgrow _ _
        have HO2 := Lib.hid hown'
        have HB2 := Lib.hid (((HB.out.alloc (by omega) _).grown hgrow (by simp; omega) (fun k hk => by have := (HO.out.lt k hk).1; omega)))
        clear hown' hgrow
        go_wp2
        simp only [Exit.jump]
        go_ret3
        rw [HF.out]
        refine ⟨⟨v', rfl, ?_, by rw [List.length_append]; simp; omega⟩, HB2.out⟩
        have := own_lower HO2.out (show w.heap.size ≤ w.heap.size + 1 by omega)
        unfold OwnTok
        rw [tok_snoc, List.length_append]
        exact this
      · have hlt : q < l.length := by omega
        clear hend
        obtain ⟨c, r, hcr⟩ : ∃ c r, l.drop q = c :: r := by
          cases hd : l.drop q with
          | nil => have := congrArg List.length hd; rw [List.length_drop] at this; simp at this; omega
          | cons c r => exact ⟨c, r, rfl⟩
        have hex : (ByteArray.mk l.toArray).extract q l.length = ByteArray.mk (c :: r).toArray := by rw [extract_drop, hcr]
        have hcl : (c :: r).length + q = l.length := by rw [← hcr, List.length_drop]; omega
        have hcl1 : (c :: r).length ≤ 140737488355328 := by omega
        have hleft := Lib.hid (left_any c r wr hcl1)
        have hlle := leftP_le (c :: r)
        have hql2 : q ≤ l.length := by omega
        rw [hcr] at H
        have hdrop : ∀ k, (c :: r).drop k = l.drop (q + k) := fun k => by rw [← hcr, List.drop_drop]
        have HD := Lib.hid hdrop
        have hqq : (0 : Int) ≤ q := by omega
        have hPK := HQ.out
        clear hcr hdrop
        by_cases h0 : 0 < leftP (c :: r)
        · have hst := Lib.hid (scanQ_left q (c :: r) (by simp) h0)
          have hqk : q + leftP (c :: r) ≤ l.length := by omega
          have hlen2 : (c :: r).length ≤ l.length := by omega
          generalize leftP (c :: r) = k at *
          generalize c :: r = m at *
          go_wp2_with (first
            | (go_at_call 63; refine hleft.out.mono ?_; rintro e w' ⟨rfl, rfl⟩))
          go_step3
          refine ⟨rfl, ⟨q, k, q + k, ts, v, x0, x1, x2, x3, _, _, _, _, _, _, _, _, _, _, _, _, _, _, _, _, _, _, _, _, _, _, _, _, _, _, _, _, _, _, _, _, _, _, _, _, _, _, _, _, rfl, hqq, by omega, Lib.hid (by omega), hqk, by omega, Lib.hid (by rw [H.out, hst.out, HD.out]), HO, HX, HB⟩, ?_⟩
          simp [intOf]; omega
        · have hE1 := HE.out.below HB.out h8
          have h81 := Nat.le_trans h8 HB.out.size
          have hl0 : leftP (c :: r) = 0 := by omega
          have hne : (c :: r) ≠ [] := by simp
          rw [hl0] at hleft
          cases htok : tokenP (c :: r) with
          | error x =>
            have HF : Hid (allP l = .error (q, x)) := Lib.hid (by rw [H.out, scanQ_bad q (c :: r) hne h0 htok]; rfl)
            have htk := Lib.hid (token_err c r wr hE1 h81 hcl1 htok)
            have hx0 : ((x : Int) != 0) = true := by rcases tokenP_err htok with h | h <;> (rw [h]; decide)
            clear H htok hE1 h81 hlle h0 hl0 hne HD
            generalize c :: r = m at *
            go_wp2_with (go_at_call 63; refine hleft.out.mono ?_; rintro e w' ⟨rfl, rfl⟩)
            refine htk.out.mono ?_
            rintro e w3 ⟨⟨k0, t0, n0, a0, rfl⟩, hb⟩
            have hblk := Lib.hid (block_kept hb HX.out)
            have hB3 := Lib.hid (HB.out.trans (hb.mono HB.out.size))
            have hs3 : w.heap.size + 1 ≤ w3.heap.size := by have := hb.size; omega
            clear hb hleft htk
            have hone : Hid ((#[.int .i64 k0, .string t0, .int .i64 n0, .int .i64 a0] : Array Value).all (·.oneCell') = true) := Lib.hid (by simp [Value.oneCell'])
            have hinf : Hid ((Tryz.prog.info? 82).map (·.size) = some (#[.int .i64 k0, .string t0, .int .i64 n0, .int .i64 a0] : Array Value).size) := Lib.hid (by rw [hi]; simp [hz1])
            go_wp2_with (refine wpList_store_abs rfl 82 _ _ rfl w.heap.size #[.int .i64 k0, .string t0, .int .i64 n0, .int .i64 a0] rfl rfl 82 _ hblk.out hinf.out rfl hone.out ?_)
            intro W hW hg4
            have hB4 := Lib.hid (Below.grownAt hB3.out hg4 (by omega) (Nat.le_refl _))
            clear hW hg4 hblk hB3 hs3
            go_wp2
            simp only [Exit.jump]
            go_ret3
            rw [HF.out]
            exact ⟨rfl, hB4.out⟩
          | ok tk =>
            obtain ⟨⟨tk, tt, tn, ta⟩, k⟩ := tk
            have hks := tokenP_size htok
            have hst := Lib.hid (scanQ_tok q (c :: r) hne h0 htok)
            have htk0 := token_ok c r wr hE1 h81 hcl1 htok
            dsimp only at htk0
            obtain ⟨hk0, hkl⟩ := hks
            have hqk : q + k ≤ l.length := by omega
            clear htok hE1 h81 hlle h0 hl0 hne
            generalize c :: r = m at *
            have hC : Hid (tokC ⟨tk, tt, tn, q⟩ = [.int .i64 tk, .string (ByteArray.mk tt.toArray), .int .i64 tn, .int .i64 q]) := Lib.hid rfl
            generalize htb : (ByteArray.mk tt.toArray) = tb at htk0 hC
            clear htb
            have htk := Lib.hid htk0
            clear htk0
            go_wp2_with (go_at_call 63; refine hleft.out.mono ?_; rintro e w' ⟨rfl, rfl⟩)
            refine htk.out.mono ?_
            rintro e w3 ⟨rfl, hb⟩
            have hblk := Lib.hid (block_kept hb HX.out)
            have hO3 := Lib.hid (own_below HO.out hb)
            have hB3 := Lib.hid (HB.out.trans (hb.mono HB.out.size))
            have hs3 : w.heap.size + 1 ≤ w3.heap.size := by have := hb.size; omega
            clear hb hleft htk
            have hone : Hid ((#[.int .i64 tk, .string tb, .int .i64 tn, .int .i64 ta] : Array Value).all (·.oneCell') = true) := Lib.hid (by simp [Value.oneCell'])
            have hinf : Hid ((Tryz.prog.info? 82).map (·.size) = some (#[.int .i64 tk, .string tb, .int .i64 tn, .int .i64 ta] : Array Value).size) := Lib.hid (by rw [hi]; simp [hz1])
            go_wp2_with (go_loud (refine wpList_store_abs rfl 82 _ _ rfl w.heap.size #[.int .i64 tk, .string tb, .int .i64 tn, .int .i64 ta] rfl rfl 82 _ hblk.out hinf.out rfl hone.out ?_))
            intro W hW hg4
            have c0 := cell_at hW (i := 0) rfl
            have c1 := cell_at hW (i := 1) rfl
            have c2 := cell_at hW (i := 2) rfl
            have c3 := cell_at hW (i := 3) rfl
            have f3 := Lib.frozen_of_heap hW 3
            have hO4 := Lib.hid (hO3.out.kept hg4 (own_ne hO3.out (by omega)))
            have hB4 := Lib.hid (Below.grownAt hB3.out hg4 (by omega) (Nat.le_refl _))
            have hs4 : w.heap.size + 1 ≤ W.heap.size := Nat.le_trans hs3 hg4.size
            have hX5 := Lib.hid (heap_setCell3 hW (.int .i64 q))
            have hO5 := Lib.hid (hO4.out.kept (grown_setCell3 W w.heap.size 3 (.int .i64 q)) (own_ne hO4.out (by omega)))
            have hB5 := Lib.hid (Below.grownAt hB4.out (grown_setCell3 W w.heap.size 3 (.int .i64 q)) (by omega) (Nat.le_refl _))
            have hs5 : w.heap.size + 1 ≤ (W.setCell ⟨w.heap.size, 3, none⟩ (.int .i64 q)).heap.size := by rw [Go.Deep.nblk_setCell]; exact hs4
            have hS5 := Lib.hid hs5
            clear hW hg4 hblk hO3 hB3 hs3 hO4 hB4 hs5
            go_wp2_with (at_builtin; (refine wpList_append_own_at _ rfl _ _ 73 rfl (w.heap.size + 1) 82 i0 _ 4 40 Tryz.underlying73 hi hz0 hz1 hz2 rfl (by decide) _ ts.length (ts.flatMap tokC) rfl ?c0 ⟨_, 0, none⟩ 1 1 [.int .i64 tk, .string tb, .int .i64 tn, .int .i64 q] rfl rfl ?c1 ?c2 ?c3 ?c4 ?c5 ?_))
            case c0 => exact hO5.out.alloc _
            case c1 =>
              have hn := World.news_of_block (cs := #[.int .i64 tk, .string tb, .int .i64 tn, .int .i64 q]) (t := 82) (fr := (0, 0)) (heap_alloc_new (W.setCell ⟨w.heap.size, 3, none⟩ (.int .i64 q)) _)
              rw [Go.Deep.nblk_setCell] at hn
              exact hn
            case c2 => simp [Value.oneCell']
            case c3 => unfold maxLen; omega
            case c4 => omega
            case c5 => have := hS5.out; simp only [World.alloc, Array.size_push]; omega
            intro v' w2 hown' hgrow _ _
            have hne5 := own_ne hO5.out (show w.heap.size < w.heap.size + 1 by omega)
            have HO2 := Lib.hid hown'
            have HB2 := Lib.hid (((hB5.out.alloc (by have := hS5.out; omega) _).grown hgrow (by have := hS5.out; simp only [World.alloc, Array.size_push]; omega) (fun k hk => by have := (hO5.out.lt k hk).1; omega)))
            have HX2 : Hid (w2.heap[w.heap.size]? = some (.cells #[.int .i64 tk, .string tb, .int .i64 tn, .int .i64 q] 82 (0, 0))) := Lib.hid ((hgrow.block w.heap.size (by have := hS5.out; simp only [World.alloc, Array.size_push]; omega) (by rcases hne5 with h | h; rw [h]; simp; exact fun e => h e.symm)).trans (block_kept (below_alloc1 _ _) hX5.out))
            clear hown' hgrow
            go_wp2
            go_step3
            refine ⟨rfl, ⟨q, k, q + k, ts ++ [⟨tk, tt, tn, q⟩], v', tk, tb, tn, q, _, _, _, _, _, _, _, _, _, _, _, _, _, _, _, _, _, _, _, _, _, _, _, _, _, _, _, _, _, _, _, _, _, _, _, _, _, _, _, _, rfl, hqq, by omega, Lib.hid (by omega), hqk, by simp; omega, Lib.hid (by rw [H.out, hst.out, HD.out, preP_tok]), Lib.hid (by unfold OwnTok; rw [tok_snoc, hC.out, List.length_append]; exact HO2.out), HX2, HB2⟩, ?_⟩
            simp [intOf]; omega
    · intro hpass
      have Hpass := Lib.hid hpass
      clear hpass
      go_wp2_with fail
      go_step3
      rename_i hK
      refine hK _ _ ?_
      refine Hpass.out _ _ ⟨0, 0, 0, [], .slice none 0 0, 0, ⟨#[]⟩, 0, 0, _, _, _, _, _, _, _, _, _, _, _, _, _, _, _, _, _, _, _, _, _, _, _, _, _, _, _, _, _, _, _, _, _, _, _, _, _, _, _, _, rfl, by omega, by omega, Lib.hid rfl, by omega, by simp, Lib.hid (by rw [HP.out]; exact (preP_nil _).symm), Lib.hid ?_, Lib.hid (heap_alloc_new w _), Lib.hid (below_alloc1 _ _)⟩
      exact World.ownsRow_nil _ _ _ _
end Go.Proofs.YtgpgmmkkmoecmaaGreatDoor
