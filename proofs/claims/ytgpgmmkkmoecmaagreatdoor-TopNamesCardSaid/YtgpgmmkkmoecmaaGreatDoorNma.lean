/- Texts joined: Pa Ba Wa Pb Wb Wg Pc Wh Ra Rb Rg Rf Rfa Ka Kb. -/
import Derived.Below
import Derived.Deep.Draws
import Derived.Maps.AppendAt
import Derived.OwnWalk
import Derived.WalkKit
import Derived.Laws.MakeOwn
import Derived.Laws.OwnMore
import Derived.KernelRfl
import Derived.Test.YtgpgmmkkmoecmaaGreatDoorProg
import Derived.ProofKit
import Derived.Deep.QuietTactic
import Derived.BigQuiet
import Derived.WalkSpells
import Derived.Outline
import Derived.Lib.Hide
import Derived.Lib.Builder
import Derived.Lib.OthersKept
import Derived.Lib.AppendStr
import Derived.Lib.UnsafeStr
import Derived.Lib.MakeNoZero
import Derived.Lib.OwnKind
import Derived.OrdersHeld
import Derived.Shelf.Strings.Builder1
import Derived.Lib.ItoaNum
import Derived.Test.YtgpgmmkkmoecmaaGreatDoorShelf
import Derived.Deep.RegionWith
import Derived.Deep.DeepFit
import Derived.BigRegion
import Derived.Lib.ItoaLen
import Derived.Laws.Concat
import Derived.Test.YtgpgmmkkmoecmaaGreatDoorCards
import Derived.Test.YtgpgmmkkmoecmaaGreatDoorTie
import Derived.OpenShut
import Derived.Deep.DeepHandedRow
import Derived.Deep.DeepWitnessRowRef
import Derived.Lib.LaidTab
import Derived.Stop.LaidErr
import Derived.LaidMore
import Derived.Carry
import Derived.JoinedOf
import Derived.Orders
import Derived.ScopeJumps
/- The plain functions that the program computes, part 1: rows of numbers. No program, no memory. -/
namespace Go.Proofs.YtgpgmmkkmoecmaaGreatDoor

/-- An element by its place. -/
def nth {α : Type} (z : α) (xs : List α) (k : Nat) : α := xs.getD k z
theorem nth_get {α : Type} (z : α) (xs : List α) (k : Nat) (h : k < xs.length) : xs[k]? = some (nth z xs k) := by simp [nth, List.getD_eq_getElem?_getD, List.getElem?_eq_getElem h]
/-- Two numbers held against each other. -/
def cmp1 (a b : Int) : Int := if a < b then -1 else if b < a then 1 else 0
/-- Two rows held against each other. -/
def cmpL : List Int → List Int → Int
  | [], [] => 0
  | [], _ :: _ => -1
  | _ :: _, [] => 1
  | a :: l, b :: m => if a < b then -1 else if b < a then 1 else cmpL l m
/-- Numbers rise. -/
def risingB : List Int → Bool
  | a :: b :: r => decide (a < b) && risingB (b :: r)
  | _ => true
def smallB (n most : Int) : Bool := decide (-most ≤ n) && decide (n ≤ most)
/-- Where a number stands, from a place on; -1: nowhere. -/
def indexFrom (x : Int) : Nat → List Int → Int
  | _, [] => -1
  | i, a :: r => if a = x then i else indexFrom x (i + 1) r

theorem drop_cons {α : Type} (xs : List α) (z : α) (k : Nat) (h : k < xs.length) : xs.drop k = nth z xs k :: xs.drop (k + 1) := by
  rw [List.drop_eq_getElem_cons h]
  simp [nth, List.getD_eq_getElem?_getD, List.getElem?_eq_getElem h]
theorem indexFrom_ge (x : Int) : ∀ (l : List Int) (i : Nat), 0 ≤ indexFrom x i l ↔ x ∈ l
  | [], i => by simp [indexFrom]
  | a :: r, i => by
    unfold indexFrom
    split
    · rename_i h; simp [h]
    · rename_i h
      rw [indexFrom_ge x r (i + 1)]
      simp [Ne.symm h]
theorem indexFrom_le (x : Int) : ∀ (l : List Int) (i : Nat), indexFrom x i l ≤ i + l.length ∧ -1 ≤ indexFrom x i l
  | [], i => by simp [indexFrom]
  | a :: r, i => by
    unfold indexFrom
    split
    · simp; omega
    · have := indexFrom_le x r (i + 1)
      simp only [List.length_cons]
      omega
theorem risingB_drop (xs : List Int) (k : Nat) (h : k + 1 < xs.length) : risingB (xs.drop k) = (decide (nth 0 xs k < nth 0 xs (k + 1)) && risingB (xs.drop (k + 1))) := by
  rw [drop_cons xs 0 k (by omega), drop_cons xs 0 (k + 1) h, risingB]
theorem risingB_last (xs : List Int) (k : Nat) (h : xs.length ≤ k + 1) : risingB (xs.drop k) = true := by
  rcases Nat.lt_or_ge k xs.length with h1 | h1
  · rw [drop_cons xs 0 k h1, List.drop_eq_nil_of_le (by omega)]; rfl
  · rw [List.drop_eq_nil_of_le h1]; rfl
end Go.Proofs.YtgpgmmkkmoecmaaGreatDoor

/- What memory holds: readable data, rows of the call's own, and how they outlive later writes. Plain lemmas over the model; no program. -/
namespace Go.Proofs.YtgpgmmkkmoecmaaGreatDoor
open Go.RowKit

theorem ret_int {k : IntKind} {a b : Int} (h : a = b) : Ending.returned (.int k a) = .returned (.int k b) := by rw [h]
theorem ret_bool {a b : Bool} (h : a = b) : Ending.returned (.bool a) = .returned (.bool b) := by rw [h]
theorem ret_str {a b : ByteArray} (h : a = b) : Ending.returned (.string a) = .returned (.string b) := by rw [h]
/-- A kind of data: how many cells a value has, and what they say; 'ok': the blocks in which the value's inner rows may lie. -/
structure Kd (α : Type) where
  sz : Nat
  K : World → (Nat → Prop) → α → List Value → Prop
  len : ∀ {w ok x cs}, K w ok x cs → cs.length = sz
  one : ∀ {w ok x cs}, K w ok x cs → ∀ u ∈ cs, u.oneCell' = true
  mono : ∀ {w} {ok ok' : Nat → Prop} {x cs}, (∀ k, ok k → ok' k) → K w ok x cs → K w ok' x cs
  move : ∀ {w w1 : World} {ok x cs}, (∀ k, ok k → k < w.heap.size → w1.heap[k]? = w.heap[k]?) → K w ok x cs → K w1 (fun k => ok k ∧ k < w.heap.size) x cs

/-- The elements of a row that can be read. -/
def Elems {α : Type} (d : Kd α) (w : World) (ok : Nat → Prop) (A : Option Addr) (xs : List α) : Prop :=
  ∀ j x, xs[j]? = some x → ∃ b o cs, A = some ⟨b, o, none⟩ ∧ ok b ∧ d.K w ok x cs ∧ ∀ i u, cs[i]? = some u → w.cell? ⟨b, o + (j * d.sz + i), none⟩ = some u

/-- A slice that can be read. -/
def Sl {α : Type} (d : Kd α) (w : World) (ok : Nat → Prop) (v : Value) (xs : List α) : Prop :=
  ∃ A c, v = .slice A xs.length c ∧ xs.length ≤ c ∧ xs.length ≤ 140737488355328 ∧ Elems d w ok A xs

theorem Elems.mono {α : Type} {d : Kd α} {w : World} {ok ok' : Nat → Prop} {A : Option Addr} {xs : List α} (hk : ∀ k, ok k → ok' k) (h : Elems d w ok A xs) : Elems d w ok' A xs := by
  intro j x hx
  obtain ⟨b, o, cs, h1, h2, h3, h4⟩ := h j x hx
  exact ⟨b, o, cs, h1, hk b h2, d.mono hk h3, h4⟩
theorem lt_of_cell {w : World} {a : Addr} {u : Value} (h : w.cell? a = some u) : a.block < w.heap.size := World.block_lt_of_cell? w a h
theorem Elems.move {α : Type} {d : Kd α} {w w1 : World} {ok : Nat → Prop} {A : Option Addr} {xs : List α} (hs : 0 < d.sz) (hm : ∀ k, ok k → k < w.heap.size → w1.heap[k]? = w.heap[k]?) (h : Elems d w ok A xs) : Elems d w1 (fun k => ok k ∧ k < w.heap.size) A xs := by
  intro j x hx
  obtain ⟨b, o, cs, h1, h2, h3, h4⟩ := h j x hx
  have hl := d.len h3
  have hb : b < w.heap.size := lt_of_cell (h4 0 _ (List.getElem?_eq_getElem (show 0 < cs.length by omega)))
  refine ⟨b, o, cs, h1, ⟨h2, hb⟩, d.move hm h3, fun i u hu => ?_⟩
  exact (World.cell?_of_block (w := w) (hm b h2 hb)).trans (h4 i u hu)
theorem Sl.mono {α : Type} {d : Kd α} {w : World} {ok ok' : Nat → Prop} {v : Value} {xs : List α} (hk : ∀ k, ok k → ok' k) (h : Sl d w ok v xs) : Sl d w ok' v xs := by
  obtain ⟨A, c, h1, h2, h3, h4⟩ := h
  exact ⟨A, c, h1, h2, h3, h4.mono hk⟩
theorem Sl.move {α : Type} {d : Kd α} {w w1 : World} {ok : Nat → Prop} {v : Value} {xs : List α} (hs : 0 < d.sz) (hm : ∀ k, ok k → k < w.heap.size → w1.heap[k]? = w.heap[k]?) (h : Sl d w ok v xs) : Sl d w1 (fun k => ok k ∧ k < w.heap.size) v xs := by
  obtain ⟨A, c, h1, h2, h3, h4⟩ := h
  exact ⟨A, c, h1, h2, h3, h4.move hs hm⟩
theorem Sl.elems {α : Type} {d : Kd α} {w : World} {ok : Nat → Prop} {A : Option Addr} {n c : Nat} {xs : List α} (h : Sl d w ok (.slice A n c) xs) : Elems d w ok A xs := by
  obtain ⟨_, _, he, _, _, hA⟩ := h
  injection he with he1 _ _
  rw [he1]; exact hA
/-- The usual mover: all that was there stands. -/
theorem Sl.below {α : Type} {d : Kd α} {w w1 : World} {ok : Nat → Prop} {v : Value} {xs : List α} (hs : 0 < d.sz) (h : Sl d w ok v xs) (hb : Below w.heap.size w w1) : Sl d w1 ok v xs :=
  (h.move hs fun k _ hk => hb.block k hk).mono fun _ h => h.1
theorem Kd.below {α : Type} (d : Kd α) {w w1 : World} {ok : Nat → Prop} {x : α} {cs : List Value} (h : d.K w ok x cs) (hb : Below w.heap.size w w1) : d.K w1 ok x cs :=
  d.mono (fun _ h => h.1) (d.move (fun k _ hk => hb.block k hk) h)

/-! ### The kinds -/
namespace Kd
def scalar {α : Type} (enc : α → Value) (h1 : ∀ x, (enc x).oneCell' = true) : Kd α where
  sz := 1
  K := fun _ _ x cs => cs = [enc x]
  len := fun h => by rw [h]; rfl
  one := fun h u hu => by rw [h] at hu; rw [List.mem_singleton.1 hu]; exact h1 _
  mono := fun _ h => h
  move := fun _ h => h
def int (k : IntKind) : Kd Int := scalar (Value.int k) (fun _ => rfl)
def str : Kd ByteArray := scalar Value.string (fun _ => rfl)
def bool : Kd Bool := scalar Value.bool (fun _ => rfl)
def slice {α : Type} (d : Kd α) (hs : 0 < d.sz) : Kd (List α) where
  sz := 1
  K := fun w ok xs cs => ∃ v, cs = [v] ∧ Sl d w ok v xs
  len := fun ⟨_, h, _⟩ => by rw [h]; rfl
  one := fun ⟨_, h, A, c, h1, _⟩ u hu => by rw [h] at hu; rw [List.mem_singleton.1 hu, h1]; rfl
  mono := fun hk ⟨v, h, h1⟩ => ⟨v, h, h1.mono hk⟩
  move := fun hm ⟨v, h, h1⟩ => ⟨v, h, h1.move hs hm⟩
def pair {α β : Type} (a : Kd α) (b : Kd β) : Kd (α × β) where
  sz := a.sz + b.sz
  K := fun w ok x cs => ∃ c0 c1, cs = c0 ++ c1 ∧ a.K w ok x.1 c0 ∧ b.K w ok x.2 c1
  len := fun ⟨c0, c1, h, h0, h1⟩ => by rw [h, List.length_append, a.len h0, b.len h1]
  one := fun ⟨c0, c1, h, h0, h1⟩ u hu => by
    rw [h] at hu
    rcases List.mem_append.1 hu with hu | hu
    · exact a.one h0 u hu
    · exact b.one h1 u hu
  mono := fun hk ⟨c0, c1, h, h0, h1⟩ => ⟨c0, c1, h, a.mono hk h0, b.mono hk h1⟩
  move := fun hm ⟨c0, c1, h, h0, h1⟩ => ⟨c0, c1, h, a.move hm h0, b.move hm h1⟩
def iso {α β : Type} (d : Kd α) (f : β → α) : Kd β where
  sz := d.sz
  K := fun w ok x cs => d.K w ok (f x) cs
  len := d.len
  one := d.one
  mono := d.mono
  move := d.move
end Kd

/-! ### Elements that are read -/
theorem Sl.at_ {α : Type} {d : Kd α} {w : World} {ok : Nat → Prop} {A : Option Addr} {xs : List α} (h : Elems d w ok A xs) {j : Nat} {x : α} (hx : xs[j]? = some x) :
    ∃ b o cs, A = some ⟨b, o, none⟩ ∧ ok b ∧ d.K w ok x cs ∧ ∀ i u, cs[i]? = some u → w.cell? ⟨b, o + (j * d.sz + i), none⟩ = some u := h j x hx
/-- One cell an element. -/
theorem Elems.cell {α : Type} {enc : α → Value} {h1 : ∀ x, (enc x).oneCell' = true} {w : World} {ok : Nat → Prop} {A : Option Addr} {xs : List α} (h : Elems (Kd.scalar enc h1) w ok A xs) {j : Nat} {x : α} (hx : xs[j]? = some x) :
    ∃ b o, A = some ⟨b, o, none⟩ ∧ w.cell? ⟨b, o + j, none⟩ = some (enc x) := by
  obtain ⟨b, o, cs, hA, _, hk, hc⟩ := h j x hx
  refine ⟨b, o, hA, ?_⟩
  have hk' : cs = [enc x] := hk
  have := hc 0 (enc x) (by rw [hk']; rfl)
  simpa [Kd.scalar] using this
theorem Elems.num {k : IntKind} {w : World} {ok : Nat → Prop} {A : Option Addr} {xs : List Int} (h : Elems (Kd.int k) w ok A xs) {j : Nat} (hj : j < xs.length) :
    ∃ b o, A = some ⟨b, o, none⟩ ∧ w.cell? ⟨b, o + j, none⟩ = some (.int k (nth 0 xs j)) := by
  have := Elems.cell (enc := Value.int k) h (j := j) (x := nth 0 xs j) (nth_get 0 xs j hj)
  exact this
/-- A slice in each cell. -/
theorem Elems.row {α : Type} {d : Kd α} {hs : 0 < d.sz} {w : World} {ok : Nat → Prop} {A : Option Addr} {xs : List (List α)} (h : Elems (Kd.slice d hs) w ok A xs) {j : Nat} (hj : j < xs.length) :
    ∃ b o v, A = some ⟨b, o, none⟩ ∧ w.cell? ⟨b, o + j, none⟩ = some v ∧ Sl d w ok v (nth [] xs j) := by
  obtain ⟨b, o, cs, hA, _, ⟨v, hv, hk⟩, hc⟩ := h j (nth [] xs j) (nth_get [] xs j hj)
  refine ⟨b, o, v, hA, ?_, hk⟩
  have := hc 0 v (by rw [hv]; rfl)
  simpa [Kd.slice] using this

end Go.Proofs.YtgpgmmkkmoecmaaGreatDoor

/- What small functions on numbers and rows of numbers compute: tuple.Rising, Compare, slices.Index and Contains, inst.small. -/
namespace Go.Proofs.YtgpgmmkkmoecmaaGreatDoor
open Go.RowKit

theorem small_any (n m : Int) (w : World) (h3 : 0 ≤ m) (h4 : m ≤ 9223372036854775807) :
    Calls Tryz.prog 51 #[.int .i64 n, .int .i64 m] w fun e w' => e = .returned (.bool (smallB n m)) ∧ w = w' := by
  by_cases h : -m ≤ n
  · go_enter Tryz.func51, Tryz.ntmps51
    go_wp2
    go_ret
    exact ⟨by simp [smallB, h], rfl⟩
  · go_enter Tryz.func51, Tryz.ntmps51
    go_wp2
    go_ret
    exact ⟨by simp [smallB]; omega, rfl⟩
theorem small64_any (n m : Int) (w : World) (h3 : 0 ≤ m) (h4 : m ≤ 9223372036854775807) :
    Calls Tryz.prog 58 #[.int .i64 n, .int .i64 m] w fun e w' => e = .returned (.bool (smallB n m)) ∧ w = w' := by
  by_cases h : -m ≤ n
  · go_enter Tryz.func58, Tryz.ntmps58
    go_wp2
    go_ret
    exact ⟨by simp [smallB, h], rfl⟩
  · go_enter Tryz.func58, Tryz.ntmps58
    go_wp2
    go_ret
    exact ⟨by simp [smallB]; omega, rfl⟩
theorem cmp1_any (a b : Int) (w : World) :
    Calls Tryz.prog 212 #[.int .i64 a, .int .i64 b] w fun e w' => e = .returned (.int .i64 (cmp1 a b)) ∧ w = w' := by
  by_cases h : a < b
  · go_enter Tryz.func212, Tryz.ntmps212
    go_wp2
    go_ret
    exact ⟨by simp [cmp1, h], rfl⟩
  · by_cases h2 : b < a
    · go_enter Tryz.func212, Tryz.ntmps212
      go_wp2
      go_ret
      exact ⟨ret_int (by unfold cmp1; rw [if_neg (by omega), if_pos h2]), rfl⟩
    · go_enter Tryz.func212, Tryz.ntmps212
      go_wp2
      go_ret
      exact ⟨ret_int (by unfold cmp1; rw [if_neg (by omega), if_neg (by omega)]), rfl⟩

theorem compare_any (v1 v2 : Value) (xs ys : List Int) (ok : Nat → Prop) (w : World) (h1 : Sl (Kd.int .i64) w ok v1 xs) (h2 : Sl (Kd.int .i64) w ok v2 ys) :
    Calls Tryz.prog 154 #[v1, v2] w fun e w' => e = .returned (.int .i64 (cmpL xs ys)) ∧ w = w' := by
  obtain ⟨A, c, rfl, hc, hm, hA⟩ := h1
  obtain ⟨A', c', rfl, hc', hm', hA'⟩ := h2
  go_enter Tryz.func154, Tryz.ntmps154
  go_wp2
  go_loop [11] (fun i => ∃ k : Nat, i = .int .i64 k ∧ k ≤ xs.length ∧ k ≤ ys.length ∧ Hid (cmpL xs ys = cmpL (xs.drop k) (ys.drop k))) (fun i => xs.length - (intOf i).toNat)
  case atStart => exact ⟨0, rfl, by omega, by omega, Lib.hid rfl⟩
  case round =>
    obtain ⟨k, rfl, hk, hk', H⟩ := hrel
    by_cases hlt : k < xs.length
    · obtain ⟨b, o, rfl, hcell⟩ := hA.num hlt
      by_cases hlt' : k < ys.length
      · obtain ⟨b', o', rfl, hcell'⟩ := hA'.num hlt'
        clear hA hA'
        have H' : Hid (cmpL (xs.drop k) (ys.drop k) = if nth 0 xs k < nth 0 ys k then -1 else if nth 0 ys k < nth 0 xs k then 1 else cmpL (xs.drop (k + 1)) (ys.drop (k + 1))) := by
          rw [drop_cons xs 0 k hlt, drop_cons ys 0 k hlt', cmpL]; exact Lib.hid rfl
        by_cases h : nth 0 xs k < nth 0 ys k
        · have hc1 : cmp1 (nth 0 xs k) (nth 0 ys k) = -1 := by simp [cmp1, h]
          go_wp2_with (go_at_call 212; refine (cmp1_any _ _ _).mono ?_; rintro e w' ⟨rfl, rfl⟩)
          go_ret
          exact ⟨ret_int (by rw [H.out, H'.out, if_pos h]), rfl⟩
        · by_cases h2 : nth 0 ys k < nth 0 xs k
          · have hc1 : cmp1 (nth 0 xs k) (nth 0 ys k) = 1 := by simp [cmp1, h, h2]
            go_wp2_with (go_at_call 212; refine (cmp1_any _ _ _).mono ?_; rintro e w' ⟨rfl, rfl⟩)
            go_ret
            exact ⟨ret_int (by rw [H.out, H'.out, if_neg (by omega), if_pos h2]), rfl⟩
          · have hc1 : cmp1 (nth 0 xs k) (nth 0 ys k) = 0 := by simp [cmp1, h, h2]
            go_wp2_with (go_at_call 212; refine (cmp1_any _ _ _).mono ?_; rintro e w' ⟨rfl, rfl⟩)
            go_round
            case rel => exact ⟨k + 1, by go_num, by omega, by omega, Lib.hid (by rw [H.out, H'.out, if_neg (by omega), if_neg (by omega)])⟩
            case measure => simp [intOf]; omega
      · go_wp2
        go_ret
        refine ⟨ret_int ?_, rfl⟩
        rw [H.out, drop_cons xs 0 k hlt, List.drop_eq_nil_of_le (show ys.length ≤ k by omega)]; rfl
    · by_cases hlt' : k < ys.length
      · go_wp2
        go_ret
        refine ⟨ret_int ?_, rfl⟩
        rw [H.out, drop_cons ys 0 k hlt', List.drop_eq_nil_of_le (show xs.length ≤ k by omega)]; rfl
      · go_wp2
        go_ret
        refine ⟨ret_int ?_, rfl⟩
        rw [H.out, List.drop_eq_nil_of_le (show xs.length ≤ k by omega), List.drop_eq_nil_of_le (show ys.length ≤ k by omega)]; rfl

theorem tcompare_any (v1 v2 : Value) (xs ys : List Int) (ok : Nat → Prop) (w : World) (h1 : Sl (Kd.int .i64) w ok v1 xs) (h2 : Sl (Kd.int .i64) w ok v2 ys) :
    Calls Tryz.prog 89 #[v1, v2] w fun e w' => e = .returned (.int .i64 (cmpL xs ys)) ∧ w = w' := by
  go_enter Tryz.func89, Tryz.ntmps89
  go_wp2_with (go_at_call 154; refine (compare_any _ _ _ _ _ _ h1 h2).mono ?_; rintro e w' ⟨rfl, rfl⟩)
  go_ret
  exact ⟨rfl, rfl⟩

theorem index_any (v : Value) (xs : List Int) (x : Int) (ok : Nat → Prop) (w : World) (h1 : Sl (Kd.int .i64) w ok v xs) :
    Calls Tryz.prog 155 #[v, .int .i64 x] w fun e w' => e = .returned (.int .i64 (indexFrom x 0 xs)) ∧ w = w' := by
  obtain ⟨A, c, rfl, hc, hm, hA⟩ := h1
  go_enter Tryz.func155, Tryz.ntmps155
  go_wp2
  go_loop [8] (fun i => ∃ k : Nat, i = .int .i64 k ∧ k ≤ xs.length ∧ Hid (indexFrom x 0 xs = indexFrom x k (xs.drop k))) (fun i => xs.length - (intOf i).toNat)
  case atStart => exact ⟨0, rfl, by omega, Lib.hid rfl⟩
  case round =>
    obtain ⟨k, rfl, hk, H⟩ := hrel
    by_cases hlt : k < xs.length
    · obtain ⟨b, o, rfl, hcell⟩ := hA.num hlt
      have H' : Hid (indexFrom x k (xs.drop k) = if nth 0 xs k = x then (k : Int) else indexFrom x (k + 1) (xs.drop (k + 1))) := by
        rw [drop_cons xs 0 k hlt, indexFrom]; exact Lib.hid rfl
      clear hA
      by_cases h : nth 0 xs k = x
      · have hb : (x == nth 0 xs k) = true := by simp [h]
        have h' := Lib.hid h; clear h
        go_wp2
        go_ret
        exact ⟨ret_int (by rw [H.out, H'.out, if_pos h'.out]), rfl⟩
      · have hb : (x == nth 0 xs k) = false := by simp; exact fun e => h e.symm
        go_wp2
        go_round
        case rel => exact ⟨k + 1, by go_num, by omega, Lib.hid (by rw [H.out, H'.out, if_neg h])⟩
        case measure => simp [intOf]; omega
    · go_wp2
      go_ret
      refine ⟨ret_int ?_, rfl⟩
      rw [H.out, List.drop_eq_nil_of_le (by omega)]; rfl

theorem contains_any (v : Value) (xs : List Int) (x : Int) (ok : Nat → Prop) (w : World) (h1 : Sl (Kd.int .i64) w ok v xs) :
    Calls Tryz.prog 90 #[v, .int .i64 x] w fun e w' => e = .returned (.bool (decide (x ∈ xs))) ∧ w = w' := by
  have hb := indexFrom_ge x xs 0
  have hx : Hid (decide (x ∈ xs) = decide (0 ≤ indexFrom x 0 xs)) := Lib.hid (decide_eq_decide.2 hb.symm)
  clear hb
  go_enter Tryz.func90, Tryz.ntmps90
  go_wp2_with (go_at_call 155; refine (index_any _ _ _ _ _ h1).mono ?_; rintro e w' ⟨rfl, rfl⟩)
  go_ret
  exact ⟨ret_bool (by rw [hx.out]), rfl⟩

theorem rising_any (v : Value) (xs : List Int) (ok : Nat → Prop) (w : World) (h1 : Sl (Kd.int .i64) w ok v xs) :
    Calls Tryz.prog 50 #[v] w fun e w' => e = .returned (.bool (risingB xs)) ∧ ∃ n, w' = w.drewN n := by
  obtain ⟨A, c, rfl, hc, hm, hA⟩ := h1
  go_enter Tryz.func50, Tryz.ntmps50
  go_wp2
  go_loopw [3] (fun i wr => ∃ k : Nat, i = .int .i64 (k + 1) ∧ Hid (risingB xs = risingB (xs.drop k)) ∧ (k ≤ xs.length) ∧ ∃ n, wr = w.drewN n) (fun i _ => xs.length - (intOf i).toNat)
  case atStart => exact ⟨0, rfl, Lib.hid rfl, by omega, 0, rfl⟩
  case round =>
    obtain ⟨k, rfl, H, hk, nd, rfl⟩ := hrel
    by_cases hlt : k + 1 < xs.length
    · obtain ⟨b, o, rfl, c1⟩ := hA.num (j := k) (by omega)
      obtain ⟨b', o', he, c2⟩ := hA.num hlt
      injection he with he
      injection he with he1 he2
      subst he1 he2
      have H' := Lib.hid (risingB_drop xs k hlt)
      have h1 : IntKind.i64.wrap ((k:Int) + 1 - 1) = k := by rw [show (k:Int) + 1 - 1 = k from by omega]; exact IntWalk.i64_in _ (by omega)
      have h2 : ((k:Int) + 1).toNat = k + 1 := by omega
      clear hA
      by_cases h : nth 0 xs (k + 1) ≤ nth 0 xs k
      · go_wp2
        go_quiet (fail)
        go_wp2
        go_ret
        exact ⟨ret_bool (by rw [H.out, H'.out]; simp; omega), by first | exact ⟨_, rfl⟩ | exact ⟨_, World.drewN_drewN ..⟩⟩
      · go_wp2
        go_quiet (fail)
        go_wp2
        go_roundw
        case rel => exact ⟨k + 1, by go_num, Lib.hid (by rw [H.out, H'.out]; simp; omega), by omega, _, rfl⟩
        case measure => simp [intOf]; omega
    · go_wp2
      go_ret
      exact ⟨ret_bool (by rw [H.out, risingB_last xs k (by omega)]), _, rfl⟩
end Go.Proofs.YtgpgmmkkmoecmaaGreatDoor

/- The plain functions that the program computes, part 2: which instances are right. No program, no memory. -/
namespace Go.Proofs.YtgpgmmkkmoecmaaGreatDoor

structure Con where
  kind : Int
  scope : List Int
  rows : List (List Int)
  args : List Int
  deriving DecidableEq, Inhabited
structure Sft where
  scope : List Int
  rows : List (List Int)
  costs : List Int
  dflt : Int
  deriving DecidableEq, Inhabited
structure Ins where
  doms : List (List Int)
  hard : List Con
  soft : List Sft
  deriving DecidableEq, Inhabited

def domainB (d : List Int) : Bool :=
  decide (0 < d.length) && decide (d.length ≤ 16) && risingB d && smallB (nth 0 d 0) 1000000 && smallB (nth 0 d (d.length - 1)) 1000000
def scopeB (n : Nat) (l : List Int) : Bool :=
  decide (0 < l.length) && decide (l.length ≤ 6) && risingB l && decide (0 ≤ nth 0 l 0) && decide (nth 0 l (l.length - 1) < n)
/-- A row's numbers, each held against its variable's domain. -/
def inDoms (doms : List (List Int)) : List Int → List Int → Bool
  | s :: ss, n :: ns => decide (n ∈ nth [] doms s.toNat) && inDoms doms ss ns
  | _, _ => true
/-- Rows over a scope, behind the one ahead. -/
def rowsB (doms : List (List Int)) (scope : List Int) : Option (List Int) → List (List Int) → Bool
  | _, [] => true
  | ahead, t :: r => decide (t.length = scope.length) && (match ahead with | none => true | some p => decide (cmpL p t < 0)) && inDoms doms scope t && rowsB doms scope (some t) r
def argsB (n : Nat) : Nat → List Int → Bool
  | _, [] => true
  | i, a :: r => !(decide (i < n) && decide (a = 0)) && smallB a 1000000 && argsB n (i + 1) r
def linearB (c : Con) : Bool :=
  decide (c.args.length = c.scope.length + 2) && decide (0 ≤ nth 0 c.args c.scope.length) && decide (nth 0 c.args c.scope.length ≤ 2) && argsB c.scope.length 0 c.args
def hardB (x : Ins) (c : Con) : Bool :=
  scopeB x.doms.length c.scope && decide (1 ≤ c.kind) && decide (c.kind ≤ 6) && !(decide (2 < c.kind) && decide (0 < c.rows.length)) &&
    if c.kind = 6 then linearB c else decide (c.args.length = 0) && rowsB x.doms c.scope none c.rows
def wideAny (l : List Int) : Bool := l.any fun n => !smallB n 1000000000000
def softB (x : Ins) (s : Sft) : Bool :=
  scopeB x.doms.length s.scope && decide (s.costs.length = s.rows.length) && smallB s.dflt 1000000000000 && !wideAny s.costs && rowsB x.doms s.scope none s.rows
def rightB (x : Ins) : Bool :=
  decide (x.doms.length ≤ 40) && decide (x.hard.length ≤ 200) && decide (x.soft.length ≤ 200) && x.doms.all domainB && x.hard.all (hardB x) && x.soft.all (softB x)
end Go.Proofs.YtgpgmmkkmoecmaaGreatDoor

/- What the functions that tell right instances compute. -/
namespace Go.Proofs.YtgpgmmkkmoecmaaGreatDoor
open Go.RowKit

theorem bcell {W w1 : World} (hb : Below W.heap.size W w1) : (∀ b o, b < W.heap.size → w1.cell? ⟨b, o, none⟩ = W.cell? ⟨b, o, none⟩) :=
  fun b o h => hb.cell (p := ⟨b, o, none⟩) h
theorem below_drewN {B : Nat} {a w : World} (h : Below B a w) (n : Nat) : Below B a (w.drewN n) := ⟨h.os, h.tape, h.output, h.size, h.block⟩

theorem below_next {w w1 w2 : World} (h : Below w.heap.size w w1) (k : Below w1.heap.size w1 w2) : Below w.heap.size w w2 := h.trans (k.mono h.size)
theorem cell_at {w : World} {g : Nat} {cs : Array Value} {t : TypeId} {fr : Nat × Nat} (hg : w.heap[g]? = some (.cells cs t fr)) {i : Nat} {u : Value} (hu : cs[i]? = some u) : w.cell? ⟨g, i, none⟩ = some u := by
  simp [World.cell?, hg, hu]
theorem cell_kept {w w1 : World} (hb : Below w.heap.size w w1) {a : Addr} {u : Value} (h : w.cell? a = some u) : w1.cell? a = some u := (hb.cell (lt_of_cell h)).trans h
theorem block_kept {w w1 : World} (hb : Below w.heap.size w w1) {g : Nat} {o : Obj} (h : w.heap[g]? = some o) : w1.heap[g]? = some o := (hb.block g (Array.getElem?_eq_some_iff.1 h).1).trans h
theorem quiet_add_left {P : Program} {f : FuncId} {args : Array Value} {w : World} {a n : Nat} {v : Value}
    (h : Calls P f args (w.drewN (a + n)) fun e w' => e = .returned v ∧ w.drewN (a + n) = w') :
    Calls P f args (w.drewN (a + n)) fun e w'' => e = .returned v ∧ ∃ m, w'' = w.drewN (a + m) :=
  h.mono fun _ _ ⟨he, hm⟩ => ⟨he, n, hm.symm⟩
theorem quiet_left {P : Program} {f : FuncId} {args : Array Value} {w : World} {n : Nat} {v : Value}
    (h : Calls P f args (w.drewN n) fun e w' => e = .returned v ∧ w.drewN n = w') : Calls P f args (w.drewN n) fun e w'' => e = .returned v ∧ ∃ m, w'' = w.drewN m :=
  h.mono fun _ _ ⟨he, hm⟩ => ⟨he, n, hm.symm⟩

theorem domain_any (v : Value) (xs : List Int) (ok : Nat → Prop) (w : World) (h1 : Sl (Kd.int .i64) w ok v xs) :
    Calls Tryz.prog 22 #[v] w fun e w' => e = .returned (.bool (domainB xs)) ∧ ∃ n, w' = w.drewN n := by
  have H := h1
  obtain ⟨A, c, rfl, hc, hm, hA⟩ := h1
  by_cases h0 : 0 < xs.length
  · obtain ⟨b, o, rfl, c0⟩ := hA.num h0
    obtain ⟨b', o', he, c1⟩ := hA.num (j := xs.length - 1) (by omega)
    injection he with he
    injection he with he1 he2
    subst he1 he2
    clear hA
    simp only [Nat.add_zero] at c0
    have hs0 : IntKind.i64.wrap ((xs.length:Int) - 1) = (xs.length:Int) - 1 := IntWalk.i64_in _ (by omega)
    have hs1 : ((xs.length:Int) - 1).toNat = xs.length - 1 := by omega
    go_enter Tryz.func22, Tryz.ntmps22
    go_wp2_with (first | (go_at_call 50; refine (rising_any _ _ _ _ H).mono ?_; rintro e w' ⟨rfl, nd, rfl⟩) | (go_at_call 51; refine (small_any _ _ _ (by omega) (by omega)).mono ?_; rintro e w' ⟨rfl, rfl⟩))
    all_goals go_ret
    all_goals exact ⟨ret_bool (by simp [domainB, *]; try omega), by first | exact ⟨_, rfl⟩ | exact ⟨0, rfl⟩⟩
  · have hs : xs.length = 0 := by omega
    go_enter Tryz.func22, Tryz.ntmps22
    go_wp2
    all_goals go_ret
    all_goals exact ⟨ret_bool (by simp [domainB, *]), ⟨0, rfl⟩⟩

/-- A slice of rows of numbers. -/
abbrev kRow : Kd (List Int) := Kd.slice (Kd.int .i64) (by decide)
abbrev kRows : Kd (List (List Int)) := Kd.slice kRow (by decide)

theorem below_alloc1 (w : World) (o : Obj) : Below w.heap.size w (w.alloc o) := (Below.refl _ _).alloc (Nat.le_refl _) o

theorem Sl.drewN {α : Type} {d : Kd α} {w : World} {ok : Nat → Prop} {v : Value} {xs : List α} (hs : 0 < d.sz) (h : Sl d w ok v xs) (n : Nat) : Sl d (w.drewN n) ok v xs :=
  h.below hs (below_drewN (Below.refl _ _) n)

theorem scope_any (vD vH vS v : Value) (doms : List (List Int)) (xs : List Int) (ok : Nat → Prop) (w : World) (hD : Sl kRow w ok vD doms) (h1 : Sl (Kd.int .i64) w ok v xs) :
    Calls Tryz.prog 53 #[.agg #[vD, vH, vS], v] w fun e w' => e = .returned (.bool (scopeB doms.length xs)) ∧ Below w.heap.size w w' := by
  obtain ⟨A', c', rfl, hc', hm', hA'⟩ := hD
  have H := Sl.below (by decide) h1 (below_alloc1 w (.cells #[.slice A' doms.length c', vH, vS] 30))
  have HB := below_alloc1 w (.cells #[.slice A' doms.length c', vH, vS] 30)
  obtain ⟨A, c, rfl, hc, hm, hA⟩ := h1
  have hA := Sl.elems H
  by_cases h0 : 0 < xs.length
  · obtain ⟨b, o, rfl, c0⟩ := hA.num h0
    obtain ⟨b', o', he, c1⟩ := hA.num (j := xs.length - 1) (by omega)
    injection he with he
    injection he with he1 he2
    subst he1 he2
    simp only [Nat.add_zero] at c0
    have hs0 : IntKind.i64.wrap ((xs.length:Int) - 1) = (xs.length:Int) - 1 := IntWalk.i64_in _ (by omega)
    have hs1 : ((xs.length:Int) - 1).toNat = xs.length - 1 := by omega
    clear hA hA'
    go_enter Tryz.func53, Tryz.ntmps53
    go_wp2
    refine wp_region_quiet_lit (by kernel_rfl) (by kernel_rfl) ?_
    repeat (any_goals (first | go_big_quiet_step ((go_at_call 50; exact Calls.quiet_of (rising_any _ _ _ _ (H.drewN (by decide) _)))) | quiet_step ((go_at_call 50; exact Calls.quiet_of (rising_any _ _ _ _ (H.drewN (by decide) _)))) | (refine wpQuiet_step (fun K hK => ?_); go_simp; split <;> (refine hK _ ?_; clear hK K))))
    all_goals (refine wpQuiet_nil ?_; intro _ hw'; obtain ⟨nq, hw''⟩ := hw'; subst hw'')
    all_goals go_wp2
    all_goals go_ret
    all_goals exact ⟨ret_bool (by simp [scopeB, *]; try omega), below_drewN HB _⟩
  · have hz : decide (0 < xs.length) = false := decide_eq_false h0
    clear hA hA'
    go_enter Tryz.func53, Tryz.ntmps53
    go_wp2
    go_quiet (fail)
    go_wp2
    go_ret
    exact ⟨ret_bool (by simp only [scopeB, hz, Bool.false_and]), below_drewN HB _⟩

theorem linear_any (vs vr va : Value) (c : Con) (ok : Nat → Prop) (w : World) (h1 : Sl (Kd.int .i64) w ok vs c.scope) (h2 : Sl (Kd.int .i64) w ok va c.args) :
    Calls Tryz.prog 54 #[.agg #[.int .i64 c.kind, vs, vr, va]] w fun e w' => e = .returned (.bool (linearB c)) ∧ Below w.heap.size w w' := by
  obtain ⟨A, cp, rfl, hc, hm, hA⟩ := h1
  obtain ⟨A', c', rfl, hc', hm', hA'⟩ := h2
  have HB := below_alloc1 w (.cells #[.int .i64 c.kind, .slice A c.scope.length cp, vr, .slice A' c.args.length c'] 34)
  have H := Sl.below (v := .slice A' c.args.length c') (xs := c.args) (by decide) ⟨A', c', rfl, hc', hm', hA'⟩ HB
  have hA := Sl.elems H
  clear H hA'
  by_cases hl : c.args.length = c.scope.length + 2
  · obtain ⟨b, o, rfl, c1⟩ := hA.num (j := c.scope.length) (by omega)
    have hb : ((c.args.length : Int) != c.scope.length + 2) = false := by simp; omega
    have hlt : c.scope.length < c.args.length := by omega
    have hl' := Lib.hid hl
    clear hl
    by_cases hq1 : 0 ≤ nth 0 c.args c.scope.length
    · by_cases hq2 : nth 0 c.args c.scope.length ≤ 2
      · go_enter Tryz.func54, Tryz.ntmps54
        go_wp2
        clear c1
        go_loop [34] (fun i => ∃ k : Nat, i = .int .i64 k ∧ k ≤ c.args.length ∧ Hid (argsB c.scope.length 0 c.args = argsB c.scope.length k (c.args.drop k))) (fun i => c.args.length - (intOf i).toNat)
        case atStart => exact ⟨0, rfl, by omega, Lib.hid rfl⟩
        case round =>
          obtain ⟨k, rfl, hk, H⟩ := hrel
          by_cases hkl : k < c.args.length
          · obtain ⟨b', o', he, c2⟩ := hA.num hkl
            injection he with he
            injection he with he1 he2
            subst he1 he2
            have H' : Hid (argsB c.scope.length k (c.args.drop k) = (!(decide (k < c.scope.length) && decide (nth 0 c.args k = 0)) && smallB (nth 0 c.args k) 1000000 && argsB c.scope.length (k + 1) (c.args.drop (k + 1)))) := by
              rw [drop_cons c.args 0 k hkl, argsB]; exact Lib.hid rfl
            clear hA
            by_cases hz : k < c.scope.length ∧ nth 0 c.args k = 0
            · obtain ⟨hz1, hz2⟩ := hz
              have hz3 : (nth 0 c.args k == 0) = true := by simp [hz2]
              have hz2 := Lib.hid hz2
              go_wp2_with (go_at_call 51; refine (small_any _ _ _ (by omega) (by omega)).mono ?_; rintro e w' ⟨rfl, rfl⟩)
              go_ret
              exact ⟨ret_bool (by unfold linearB; rw [H.out, H'.out, hz2.out]; simp [hz1]), HB⟩
            · have hz4 : ¬ (k < c.scope.length ∧ (nth 0 c.args k == 0) = true) := by simpa using hz
              have hz' : Hid ((!(decide (k < c.scope.length) && decide (nth 0 c.args k = 0))) = true) := by
                have : (decide (k < c.scope.length) && decide (nth 0 c.args k = 0)) = false := by
                  rw [Bool.and_eq_false_iff, decide_eq_false_iff_not, decide_eq_false_iff_not]; exact (Classical.not_and_iff_not_or_not.1 hz)
                rw [this]; exact Lib.hid rfl
              clear hz
              by_cases hz1 : k < c.scope.length
              · have hz5 : (nth 0 c.args k == 0) = false := by simpa [hz1] using hz4
                clear hz4
                cases hs : smallB (nth 0 c.args k) 1000000
                · go_wp2_with (go_at_call 51; refine (small_any _ _ _ (by omega) (by omega)).mono ?_; rintro e w' ⟨rfl, rfl⟩)
                  go_ret
                  exact ⟨ret_bool (by unfold linearB; rw [H.out, H'.out, hs]; simp), HB⟩
                · go_wp2_with (go_at_call 51; refine (small_any _ _ _ (by omega) (by omega)).mono ?_; rintro e w' ⟨rfl, rfl⟩)
                  go_round
                  case rel => exact ⟨k + 1, by go_num, by omega, Lib.hid (by rw [H.out, H'.out, hz'.out, hs]; simp)⟩
                  case measure => simp [intOf]; omega
              · clear hz4
                cases hs : smallB (nth 0 c.args k) 1000000
                · go_wp2_with (go_at_call 51; refine (small_any _ _ _ (by omega) (by omega)).mono ?_; rintro e w' ⟨rfl, rfl⟩)
                  go_ret
                  exact ⟨ret_bool (by unfold linearB; rw [H.out, H'.out, hs]; simp), HB⟩
                · go_wp2_with (go_at_call 51; refine (small_any _ _ _ (by omega) (by omega)).mono ?_; rintro e w' ⟨rfl, rfl⟩)
                  go_round
                  case rel => exact ⟨k + 1, by go_num, by omega, Lib.hid (by rw [H.out, H'.out, hz'.out, hs]; simp)⟩
                  case measure => simp [intOf]; omega
          · go_wp2
            go_ret
            exact ⟨ret_bool (by unfold linearB; rw [H.out, List.drop_eq_nil_of_le (by omega)]; simp [argsB, hl'.out, hq1, hq2]), HB⟩
      · go_enter Tryz.func54, Tryz.ntmps54
        go_wp2
        go_ret
        exact ⟨ret_bool (by simp [linearB]; omega), HB⟩
    · go_enter Tryz.func54, Tryz.ntmps54
      go_wp2
      go_ret
      exact ⟨ret_bool (by simp [linearB]; omega), HB⟩
  · have hb : ((c.args.length : Int) != c.scope.length + 2) = true := by simp; omega
    go_enter Tryz.func54, Tryz.ntmps54
    go_wp2
    go_ret
    exact ⟨ret_bool (by simp [linearB, hl]), HB⟩
end Go.Proofs.YtgpgmmkkmoecmaaGreatDoor

/- A strings.Builder embedded in inst's printer: what WriteString, WriteByte and String do to it. (Turned from the worked proofs of the shelf, at the printer's own type.) -/
namespace Go.Proofs.YtgpgmmkkmoecmaaGreatDoor
open Go.RowKit

/-- The printer in block b holds the bytes l. -/
def Bld (b : Nat) (l : List UInt8) (w : World) : Prop :=
  ∃ p v, (p = .pointer none ∨ p = .pointer (some ⟨b, 0, none⟩)) ∧ w.heap[b]? = some (.cells #[p, v] 65 (0, 0)) ∧ w.ownsRow b 5 1 v l.length (Lib.byteCells l) ∧ v.ownBlock ≠ some b ∧ (l = [] → v = .slice none 0 0)
/-- What a call on the printer in block b keeps. -/
structure Kep (b : Nat) (w w' : World) : Prop where
  below : Below b w w'
  others : Lib.OthersKept 5 (some b) w w'
theorem Kep.refl (b : Nat) (w : World) : Kep b w w := ⟨Below.refl _ _, Lib.OthersKept.refl _ _ _⟩
theorem Kep.trans {b : Nat} {w w1 w2 : World} (h : Kep b w w1) (k : Kep b w1 w2) : Kep b w w2 := ⟨h.below.trans k.below, h.others.trans k.others⟩

set_option maxRecDepth 100000 in
theorem copyCheck_used (b : Nat) (w : World) (h0 : w.cell? ⟨b, 0, none⟩ = some (.pointer (some ⟨b, 0, none⟩))) :
    Calls Tryz.prog 60 #[.pointer (some ⟨b, 0, none⟩)] w fun e w' => e = .returned (.tuple #[]) ∧ w' = w := by
  obtain ⟨j, hj, _⟩ := Option.map_eq_some_iff.1 (show (Tryz.prog.info? 63).map (·.size) = some 2 by kernel_rfl)
  go_enter Tryz.func60, Tryz.ntmps60
  go_wp2
  rw [Lib.run_neq_ptr_same w _ Tryz.underlying60 hj]
  go_wp2
  go_end0
  exact ⟨rfl, rfl⟩
set_option maxRecDepth 100000 in
theorem copyCheck_fresh (b : Nat) (w : World) (h0 : w.cell? ⟨b, 0, none⟩ = some (.pointer none)) (hsh : w.shape? b = some (65, 2)) (hfz : w.frozen? ⟨b, 0, none⟩ = false) :
    Calls Tryz.prog 60 #[.pointer (some ⟨b, 0, none⟩)] w fun e w' => e = .returned (.tuple #[]) ∧ w' = w.setCell ⟨b, 0, none⟩ (.pointer (some ⟨b, 0, none⟩)) := by
  obtain ⟨j, hj, hjs⟩ := Option.map_eq_some_iff.1 (show (Tryz.prog.info? 63).map (·.size) = some 2 by kernel_rfl)
  go_enter Tryz.func60, Tryz.ntmps60
  go_wp2
  rw [Lib.run_to_unsafe w ⟨b, 0, none⟩ Tryz.underlying60 Tryz.underlying156 hj (by rw [hjs]; decide) hsh (Nat.zero_lt_succ 1)]
  simp only [Result.andThen]
  rw [Oper.upon_value]
  go_wp2
  rw [run_callFunc_extern Tryz.func92 (by kernel_rfl) (by kernel_rfl) (by kernel_rfl) (e := Extern.AbiNoEscape.same) (by kernel_rfl)]
  rw [Lib.run_noEscape]
  simp only [Result.andThen]
  rw [Oper.upon_value]
  go_wp2
  rw [Lib.run_from_unsafe w ⟨b, 0, none⟩ Tryz.underlying156 Tryz.underlying60 hj hsh (by kernel_rfl)]
  simp only [Result.andThen]
  rw [Oper.upon_value]
  go_wp2
  go_end0
  exact ⟨rfl, rfl⟩
theorem byteCells_append (l m : List UInt8) : Lib.byteCells (l ++ m) = Lib.byteCells l ++ Lib.byteCells m := by simp [Lib.byteCells]
theorem lt_of_block {w : World} {b : Nat} {o : Obj} (h : w.heap[b]? = some o) : b < w.heap.size := (Array.getElem?_eq_some_iff.1 h).1
/-- Behind copyCheck the printer is used. -/
theorem copyCheck_any (b : Nat) (l : List UInt8) (w : World) (h : Bld b l w) :
    Calls Tryz.prog 60 #[.pointer (some ⟨b, 0, none⟩)] w fun e w' => e = .returned (.tuple #[]) ∧
      (∃ v, w'.heap[b]? = some (.cells #[.pointer (some ⟨b, 0, none⟩), v] 65 (0, 0)) ∧ w'.ownsRow b 5 1 v l.length (Lib.byteCells l) ∧ v.ownBlock ≠ some b ∧ (l = [] → v = .slice none 0 0)) ∧ Kep b w w' := by
  obtain ⟨p, v, hp, hbk, hown, hne, h0⟩ := h
  rcases hp with rfl | rfl
  · refine (copyCheck_fresh b w (cell_at hbk (i := 0) rfl) (by simp [World.shape?, hbk]) (Lib.frozen_of_heap hbk 0)).mono ?_
    rintro e w' ⟨rfl, rfl⟩
    have hb' : (w.setCell ⟨b, 0, none⟩ (.pointer (some ⟨b, 0, none⟩))).heap[b]? = some (.cells #[.pointer (some ⟨b, 0, none⟩), v] 65 (0, 0)) := by
      simp [World.setCell, Array.getElem?_modify, hbk]
    have hg : w.grownBy (w.setCell ⟨b, 0, none⟩ (.pointer (some ⟨b, 0, none⟩))) (some b) :=
      ⟨rfl, rfl, rfl, by simp [World.setCell], fun k _ hk => Below.heap_setCell _ _ _ _ (fun e => hk (by rw [e]))⟩
    exact ⟨rfl, ⟨v, hb', hown.kept hg (.inr hne), hne, h0⟩, (Below.refl b w).setCell (p := ⟨b, 0, none⟩) (Nat.le_refl _) _, (Lib.OthersKept.refl _ _ w).setCell ⟨b, 0, none⟩ rfl _⟩
  · refine (copyCheck_used b w (cell_at hbk (i := 0) rfl)).mono ?_
    rintro e w' ⟨rfl, rfl⟩
    exact ⟨rfl, ⟨v, hbk, hown, hne, h0⟩, Kep.refl _ _⟩

set_option maxHeartbeats 1000000 in
set_option maxRecDepth 100000 in
theorem writeString_any (b : Nat) (l : List UInt8) (s : ByteArray) (w : World) (h : Bld b l w) (hlen : l.length + s.size ≤ 140737488355328) :
    Calls Tryz.prog 29 #[.pointer (some ⟨b, 0, none⟩), .string s] w fun e w' => e = .returned (.tuple #[.int .i64 s.size, .nilIface]) ∧ Bld b (l ++ s.data.toList) w' ∧ Kep b w w' := by
  obtain ⟨i0, hi, hz0, hz1, hz2⟩ := info_parts (show (Tryz.prog.info? 5).map (fun i => (i.zero, i.size, i.bytes)) = some (some (.int .u8 0), 1, 1) by kernel_rfl)
  have hbw : b < w.heap.size := by obtain ⟨p, v, _, hbk, _⟩ := h; exact lt_of_block hbk
  go_enter Tryz.func29, Tryz.ntmps29
  go_wp2_with (go_at_call 60; refine (copyCheck_any b l _ h).mono ?_)
  rintro e w1 ⟨rfl, ⟨v, hbk, hown, hne, h0⟩, hk1⟩
  have hsz := hk1.below.size
  have K1 := Lib.hid hk1
  clear hk1
  have c0 : w1.cell? ⟨b, 0, none⟩ = some (.pointer (some ⟨b, 0, none⟩)) := cell_at hbk (i := 0) rfl
  have c1 : w1.cell? ⟨b, 1, none⟩ = some v := cell_at hbk (i := 1) rfl
  have H0 := Lib.hid h0
  clear h0
  go_wp2_with (at_builtin; refine Lib.wpList_append_own_string _ rfl _ _ 61 9 rfl b 5 i0 Tryz.underlying61 Tryz.underlying9 hi hz0 hz1 hz2 _ _ _ rfl hown s rfl ?c3 ?c4 ?c5 ?_)
  case c3 => unfold maxLen; omega
  case c4 => omega
  case c5 => omega
  intro v' w2 hown' hgrow hnil
  have Hn := Lib.hid hnil
  clear hnil
  have hlt : b < w1.heap.size := lt_of_block hbk
  have hb2 : w2.heap[b]? = some (.cells #[.pointer (some ⟨b, 0, none⟩), v] 65 (0, 0)) := by
    rw [hgrow.block b hlt (fun e => hne e.symm)]
    exact hbk
  have d0 : w2.cell? ⟨b, 0, none⟩ = some (.pointer (some ⟨b, 0, none⟩)) := cell_at hb2 (i := 0) rfl
  have d1 : w2.cell? ⟨b, 1, none⟩ = some v := cell_at hb2 (i := 1) rfl
  have f1 : w2.frozen? ⟨b, 1, none⟩ = false := Lib.frozen_of_heap hb2 1
  obtain ⟨ao, n', cap, rfl⟩ : ∃ ao n' cap, v' = .slice ao n' cap := by
    rcases hown'.2 with ⟨hv, _⟩ | ⟨g, cap, cur, hv, _⟩
    · exact ⟨_, _, _, hv⟩
    · exact ⟨_, _, _, hv⟩
  have hkind := Lib.hid (Lib.ownsRow_kind hown)
  have HG := Lib.hid hgrow
  have HO := Lib.hid hown'
  have HW := Lib.hid hown
  clear hgrow hown' hown
  go_wp2
  go_ret2
  have hne' : (Value.slice ao n' cap).ownBlock ≠ some b := by
    intro he
    obtain ⟨c', fz', hc⟩ := Lib.ownsRow_kind HO.out _ he
    rw [hb2] at hc
    injection hc with hc
    injection hc with _ hc _
    exact absurd hc (by decide)
  have hgs : w2.grownBy (w2.setCell ⟨b, 1, none⟩ (.slice ao n' cap)) (some b) :=
    ⟨rfl, rfl, rfl, by simp [World.setCell], fun k _ hk => Below.heap_setCell _ _ _ _ (fun e => hk (by rw [e]))⟩
  refine ⟨rfl, ⟨_, .slice ao n' cap, .inr rfl, ?_, ?_, hne', ?_⟩, ⟨?_, ?_⟩⟩
  · simp [World.setCell, Array.getElem?_modify, hb2]
  · have := HO.out.kept hgs (.inr hne')
    rw [List.length_append, byteCells_append]
    exact this
  · intro hl
    obtain ⟨hl1, hl2⟩ := List.append_eq_nil_iff.1 hl
    exact Hn.out.2 ⟨H0.out hl1, by have := congrArg List.length hl2; simpa using this⟩
  · exact (K1.out.below.grown HG.out (by omega) (fun k hk => (HW.out.lt k hk).1)).setCell (p := ⟨b, 1, none⟩) (Nat.le_refl _) _
  · exact (K1.out.others.grown HG.out hkind.out).setCell ⟨b, 1, none⟩ rfl _
set_option maxHeartbeats 1000000 in
set_option maxRecDepth 100000 in
theorem writeByte_any (b : Nat) (l : List UInt8) (c : UInt8) (w : World) (h : Bld b l w) (hlen : l.length + 1 ≤ 140737488355328) :
    Calls Tryz.prog 62 #[.pointer (some ⟨b, 0, none⟩), .int .u8 c.toNat] w fun e w' => e = .returned .nilIface ∧ Bld b (l ++ [c]) w' ∧ Kep b w w' := by
  obtain ⟨i0, hi, hz0, hz1, hz2⟩ := info_parts (show (Tryz.prog.info? 5).map (fun i => (i.zero, i.size, i.bytes)) = some (some (.int .u8 0), 1, 1) by kernel_rfl)
  have hbw : b < w.heap.size := by obtain ⟨p, v, _, hbk, _⟩ := h; exact lt_of_block hbk
  go_enter Tryz.func62, Tryz.ntmps62
  go_wp2_with (go_at_call 60; refine (copyCheck_any b l _ h).mono ?_)
  rintro e w1 ⟨rfl, ⟨v, hbk, hown, hne, h0⟩, hk1⟩
  have hsz := hk1.below.size
  have K1 := Lib.hid hk1
  clear hk1
  have c0 : w1.cell? ⟨b, 0, none⟩ = some (.pointer (some ⟨b, 0, none⟩)) := cell_at hbk (i := 0) rfl
  have c1 : w1.cell? ⟨b, 1, none⟩ = some v := cell_at hbk (i := 1) rfl
  have H0 := Lib.hid h0
  clear h0
  go_wp2_with (at_builtin; refine wpList_append_own _ rfl _ _ 61 rfl b 5 i0 (.int .u8 0) 1 1 Tryz.underlying61 hi hz0 hz1 hz2 rfl (by decide) _ _ _ rfl (hown.alloc _) ⟨w1.heap.size, 0, none⟩ 1 1 [.int .u8 c.toNat] rfl rfl ?c1 ?c2 ?c3 ?c4 ?c5 ?_)
  case c1 =>
    intro j u hj
    match j, hj with
    | 0, hj => simp at hj; subst hj; simp [Addr.add]
  case c2 => intro u hu; simp at hu; subst hu; rfl
  case c3 => unfold maxLen; omega
  case c4 => omega
  case c5 => simp; omega
  intro v' w2 hown' hgrow hnil
  have Hn := Lib.hid hnil
  clear hnil
  have hlt : b < w1.heap.size := lt_of_block hbk
  have hb2 : w2.heap[b]? = some (.cells #[.pointer (some ⟨b, 0, none⟩), v] 65 (0, 0)) := by
    rw [hgrow.block b (by simp; omega) (fun e => hne e.symm)]
    exact (Below.heap_alloc w1 _ b hlt).trans hbk
  have d0 : w2.cell? ⟨b, 0, none⟩ = some (.pointer (some ⟨b, 0, none⟩)) := cell_at hb2 (i := 0) rfl
  have d1 : w2.cell? ⟨b, 1, none⟩ = some v := cell_at hb2 (i := 1) rfl
  have f1 : w2.frozen? ⟨b, 1, none⟩ = false := Lib.frozen_of_heap hb2 1
  obtain ⟨ao, n', cap, rfl⟩ : ∃ ao n' cap, v' = .slice ao n' cap := by
    rcases hown'.2 with ⟨hv, _⟩ | ⟨g, cap, cur, hv, _⟩
    · exact ⟨_, _, _, hv⟩
    · exact ⟨_, _, _, hv⟩
  have hkind := Lib.hid (Lib.ownsRow_kind (hown.alloc (.cells #[.int .u8 c.toNat] 5)))
  have HG := Lib.hid hgrow
  have HO := Lib.hid hown'
  have HW := Lib.hid hown
  clear hgrow hown' hown
  go_wp2
  go_ret
  have hne' : (Value.slice ao n' cap).ownBlock ≠ some b := by
    intro he
    obtain ⟨c', fz', hc⟩ := Lib.ownsRow_kind HO.out _ he
    rw [hb2] at hc
    injection hc with hc
    injection hc with _ hc _
    exact absurd hc (by decide)
  have hgs : w2.grownBy (w2.setCell ⟨b, 1, none⟩ (.slice ao n' cap)) (some b) :=
    ⟨rfl, rfl, rfl, by simp [World.setCell], fun k _ hk => Below.heap_setCell _ _ _ _ (fun e => hk (by rw [e]))⟩
  refine ⟨rfl, ⟨_, .slice ao n' cap, .inr rfl, ?_, ?_, hne', ?_⟩, ⟨?_, ?_⟩⟩
  · simp [World.setCell, Array.getElem?_modify, hb2]
  · have := HO.out.kept hgs (.inr hne')
    rw [List.length_append, byteCells_append]
    exact this
  · intro hl
    simp at hl
  · exact ((K1.out.below.alloc (by omega) _).grown HG.out (by simp; omega) (fun k hk => (HW.out.lt k hk).1)).setCell (p := ⟨b, 1, none⟩) (Nat.le_refl _) _
  · exact ((K1.out.others.alloc _).grown HG.out hkind.out).setCell ⟨b, 1, none⟩ rfl _

set_option maxHeartbeats 1000000 in
set_option maxRecDepth 100000 in
theorem string_none (b : Nat) (p : Value) (w : World) (hbk : w.heap[b]? = some (.cells #[p, .slice none 0 0] 65 (0, 0))) :
    Calls Tryz.prog 33 #[.pointer (some ⟨b, 0, none⟩)] w fun e w' => e = .returned (.string ⟨#[]⟩) ∧ Below b w w' := by
  have c1 : w.drew.cell? ⟨b, 1, none⟩ = some (.slice none 0 0) := cell_at (w := w.drew) hbk (i := 1) rfl
  have hSD : (Builtin.unsafeSliceData_ #[61] 120 #[.slice none 0 0]).run Tryz.prog w.drew = .ok (.pointer none) w.drew := rfl
  have hUS : ∀ W : World, (Builtin.unsafeString_ #[120, 3] 9 #[.pointer none, .int .i64 0]).run Tryz.prog W = .ok (.string ⟨#[]⟩) W := fun W => by kernel_rfl
  go_enter Tryz.func33, Tryz.ntmps33
  go_wp2
  go_region
  all_goals (go_wp2; go_ret; exact ⟨rfl, Below.drew (Below.refl b w)⟩)
set_option maxHeartbeats 1000000 in
set_option maxRecDepth 100000 in
theorem string_some (b g cap : Nat) (p : Value) (cur : Array Value) (l : List UInt8) (w : World) (h0 : l ≠ []) (hbk : w.heap[b]? = some (.cells #[p, .slice (some ⟨g, 0, none⟩) l.length cap] 65 (0, 0)))
    (hbg : b ≤ g) (hg : w.heap[g]? = some (.cells cur 5 (0, 0))) (hnc : l.length ≤ cap) (hcm : cap ≤ maxLen) (hcs : cur.size = cap * 1) (htake : cur.toList.take (l.length * 1) = Lib.byteCells l) :
    Calls Tryz.prog 33 #[.pointer (some ⟨b, 0, none⟩)] w fun e w' => e = .returned (.string ⟨l.toArray⟩) ∧ Below b w w' := by
  have hl0 : l.length ≠ 0 := by simpa using h0
  have c1 : w.drew.cell? ⟨b, 1, none⟩ = some (.slice (some ⟨g, 0, none⟩) l.length cap) := cell_at (w := w.drew) hbk (i := 1) rfl
  have hSD : (Builtin.unsafeSliceData_ #[61] 120 #[.slice (some ⟨g, 0, none⟩) l.length cap]).run Tryz.prog w.drew = .ok (.pointer (some ⟨g, 0, none⟩)) w.drew :=
    Lib.run_unsafeSliceData_row _ _ _ _ _ _ (by omega)
  have hUS : (Builtin.unsafeString_ #[120, 3] 9 #[.pointer (some ⟨g, 0, none⟩), .int .i64 l.length]).run Tryz.prog w.drew = .ok (.string ⟨l.toArray⟩) (w.drew.freeze ⟨g, 0, none⟩ l.length) := by
    refine Lib.run_unsafeString_row w.drew 120 3 9 5 Tryz.underlying120 (by kernel_rfl) g cur.size (by have hg' : w.drew.heap[g]? = some (.cells cur 5 (0, 0)) := hg; simp [World.shape?, hg']) l h0 (by omega) (by unfold maxLen at hcm; omega) ?_
    intro j x hx
    have hown : w.ownsRow b 5 1 (.slice (some ⟨g, 0, none⟩) l.length cap) l.length (Lib.byteCells l) := ⟨by simp [Lib.byteCells], .inr ⟨g, cap, cur, rfl, hbg, hg, hnc, hcm, hcs, htake⟩⟩
    have := hown.cells (g := g) rfl j (.int .u8 x.toNat) (by simp [Lib.byteCells, hx])
    exact this
  go_enter Tryz.func33, Tryz.ntmps33
  go_wp2
  go_region
  all_goals (go_wp2; go_ret; exact ⟨rfl, Lib.below_freeze (Below.drew (Below.refl b w)) (p := ⟨g, 0, none⟩) hbg _⟩)
theorem string_any (b : Nat) (l : List UInt8) (w : World) (h : Bld b l w) :
    Calls Tryz.prog 33 #[.pointer (some ⟨b, 0, none⟩)] w fun e w' => e = .returned (.string ⟨l.toArray⟩) ∧ Below b w w' := by
  obtain ⟨p, v, _, hbk, hown, hne, h0⟩ := h
  cases l with
  | nil =>
    obtain rfl := h0 rfl
    exact string_none b p w hbk
  | cons x r =>
    rcases hown.2 with ⟨_, hz⟩ | ⟨g, cap, cur, rfl, hbg, hg, hnc, hcm, hcs, htake⟩
    · simp at hz
    · exact string_some b g cap p cur (x :: r) w (by simp) hbk hbg hg hnc hcm hcs htake
end Go.Proofs.YtgpgmmkkmoecmaaGreatDoor

/- The plain functions that the program computes, part 3: an instance as a text. No program, no memory. -/
namespace Go.Proofs.YtgpgmmkkmoecmaaGreatDoor

/-- Numbers, each with a space ahead. -/
def numsP (l : List Int) : List UInt8 := l.flatMap fun n => 32 :: Lib.itoa n
/-- The words of hard constraints; of how a sum is held against a number. -/
def wordsT : List (List UInt8) := [[], [116, 97, 98, 108, 101], [102, 111, 114, 98, 105, 100], [100, 105, 102, 102], [101, 113, 117, 97, 108], [114, 105, 115, 105, 110, 103], [108, 105, 110, 101, 97, 114]]
def howsT : List (List UInt8) := [[101, 113], [108, 101], [110, 101]]
def varT : List UInt8 := [118, 97, 114]
def softT : List UInt8 := [115, 111, 102, 116]
/-- A comma, but ahead of the first. -/
def commaP (i : Nat) : List UInt8 := if 0 < i then [44] else []
def rowsP : Nat → List (List Int) → List UInt8
  | _, [] => []
  | i, t :: r => commaP i ++ numsP t ++ rowsP (i + 1) r
def linP : Nat → List Int → List Int → List UInt8
  | i, a :: aa, v :: vs => commaP i ++ numsP [a, v] ++ linP (i + 1) aa vs
  | _, _, _ => []
def hardP (c : Con) : List UInt8 :=
  nth [] wordsT c.kind.toNat ++
    if c.kind = 6 then linP 0 c.args c.scope ++ ([58, 32] ++ nth [] howsT (nth 0 c.args c.scope.length).toNat) ++ numsP [nth 0 c.args (c.scope.length + 1)]
    else numsP c.scope ++ if 2 < c.kind then [] else [58] ++ rowsP 0 c.rows
def costsP : List (List Int) → List Int → List UInt8
  | t :: r, c :: cs => [44] ++ numsP t ++ numsP [c] ++ costsP r cs
  | _, _ => []
def softP (s : Sft) : List UInt8 := softT ++ numsP s.scope ++ [58] ++ numsP [s.dflt] ++ costsP s.rows s.costs
def endT : List UInt8 := [59, 10]
def domsP (l : List (List Int)) : List UInt8 := l.flatMap fun d => varT ++ numsP d ++ endT
def hardsP (l : List Con) : List UInt8 := l.flatMap fun c => hardP c ++ endT
def softsP (l : List Sft) : List UInt8 := l.flatMap fun s => softP s ++ endT
def printP (x : Ins) : List UInt8 := if rightB x = true then domsP x.doms ++ hardsP x.hard ++ softsP x.soft else []

/-- A number that the texts may tell. -/
def Fit (n : Int) : Prop := -1000000000000 ≤ n ∧ n ≤ 1000000000000
def Fits (l : List Int) : Prop := ∀ k, k < l.length → Fit (nth 0 l k)

theorem numsP_snoc (l : List Int) (k : Nat) (h : k < l.length) : numsP (l.take (k + 1)) = numsP (l.take k) ++ (32 :: Lib.itoa (nth 0 l k)) := by
  have e : l.take (k + 1) = l.take k ++ [nth 0 l k] := by
    rw [List.take_add_one, nth_get 0 l k h]; rfl
  rw [e]; simp [numsP]
theorem numsP_take_le (l : List Int) (k : Nat) : (numsP (l.take k)).length ≤ (numsP l).length := by
  have : numsP l = numsP (l.take k) ++ numsP (l.drop k) := by
    unfold numsP; rw [← List.flatMap_append, List.take_append_drop]
  rw [this]; simp

theorem take_snoc {α : Type} (z : α) (l : List α) (k : Nat) (h : k < l.length) : l.take (k + 1) = l.take k ++ [nth z l k] := by
  rw [List.take_add_one, nth_get z l k h]; rfl
theorem rowsP_snoc : ∀ (l : List (List Int)) (i : Nat) (t : List Int), rowsP i (l ++ [t]) = rowsP i l ++ (commaP (i + l.length) ++ numsP t)
  | [], i, t => by simp [rowsP]
  | a :: l, i, t => by
    simp only [List.cons_append, rowsP, rowsP_snoc l (i + 1) t, List.length_cons, List.append_assoc]
    rw [show i + 1 + l.length = i + (l.length + 1) from by omega]
theorem rowsP_step (l : List (List Int)) (k : Nat) (h : k < l.length) : rowsP 0 (l.take (k + 1)) = rowsP 0 (l.take k) ++ (commaP k ++ numsP (nth [] l k)) := by
  rw [take_snoc [] l k h, rowsP_snoc, List.length_take, Nat.min_eq_left (by omega), Nat.zero_add]
theorem rowsP_append (i : Nat) : ∀ (l m : List (List Int)), ∃ r, rowsP i (l ++ m) = rowsP i l ++ r := by
  intro l m
  induction l generalizing i with
  | nil => exact ⟨_, rfl⟩
  | cons a l ih => obtain ⟨r, hr⟩ := ih (i + 1); exact ⟨r, by simp only [List.cons_append, rowsP, hr, List.append_assoc]⟩
theorem rowsP_take_le (l : List (List Int)) (k : Nat) : (rowsP 0 (l.take k)).length ≤ (rowsP 0 l).length := by
  obtain ⟨r, hr⟩ := rowsP_append 0 (l.take k) (l.drop k)
  rw [List.take_append_drop] at hr
  rw [hr, List.length_append]; omega
theorem linP_snoc : ∀ (aa vs : List Int) (i : Nat) (a v : Int), aa.length = vs.length → linP i (aa ++ [a]) (vs ++ [v]) = linP i aa vs ++ (commaP (i + vs.length) ++ numsP [a, v])
  | [], [], i, a, v, _ => by simp [linP]
  | a0 :: aa, v0 :: vs, i, a, v, h => by
    simp only [List.length_cons, Nat.add_right_cancel_iff] at h
    simp only [List.cons_append, linP, linP_snoc aa vs (i + 1) a v h, List.length_cons, List.append_assoc]
    rw [show i + 1 + vs.length = i + (vs.length + 1) from by omega]
theorem linP_step (aa vs : List Int) (k : Nat) (h : k < vs.length) (h' : k < aa.length) : linP 0 (aa.take (k + 1)) (vs.take (k + 1)) = linP 0 (aa.take k) (vs.take k) ++ (commaP k ++ numsP [nth 0 aa k, nth 0 vs k]) := by
  rw [take_snoc 0 aa k h', take_snoc 0 vs k h, linP_snoc _ _ _ _ _ (by rw [List.length_take, List.length_take]; omega), List.length_take, Nat.min_eq_left (by omega), Nat.zero_add]
theorem linP_all : ∀ (aa vs : List Int) (i : Nat), linP i (aa.take vs.length) vs = linP i aa vs
  | [], vs, i => by simp
  | a :: aa, [], i => by simp [linP]
  | a :: aa, v :: vs, i => by simp only [List.length_cons, List.take_succ_cons, linP, linP_all aa vs (i + 1)]
theorem linP_append (i : Nat) : ∀ (aa vs bs us : List Int), aa.length = vs.length → ∃ r, linP i (aa ++ bs) (vs ++ us) = linP i aa vs ++ r := by
  intro aa
  induction aa generalizing i with
  | nil => intro vs bs us h; cases vs with
    | nil => exact ⟨_, rfl⟩
    | cons v vs => simp at h
  | cons a aa ih => intro vs bs us h; cases vs with
    | nil => simp at h
    | cons v vs =>
      simp only [List.length_cons, Nat.add_right_cancel_iff] at h
      obtain ⟨r, hr⟩ := ih (i + 1) vs bs us h
      exact ⟨r, by simp only [List.cons_append, linP, hr, List.append_assoc]⟩
theorem linP_take_le (aa vs : List Int) (k : Nat) (h : k ≤ vs.length) (h' : vs.length ≤ aa.length) : (linP 0 (aa.take k) (vs.take k)).length ≤ (linP 0 aa vs).length := by
  obtain ⟨r, hr⟩ := linP_append 0 (aa.take k) (vs.take k) (aa.drop k) (vs.drop k) (by rw [List.length_take, List.length_take]; omega)
  rw [List.take_append_drop, List.take_append_drop] at hr
  rw [hr, List.length_append]; omega
theorem numsP_two (a v : Int) : numsP [a, v] = (32 :: Lib.itoa a) ++ (32 :: Lib.itoa v) := by simp [numsP]
theorem fits_two {a v : Int} (h : Fit a) (h' : Fit v) : Fits [a, v] := by
  intro k hk
  match k, hk with
  | 0, _ => exact h
  | 1, _ => exact h'
theorem fits_one {a : Int} (h : Fit a) : Fits [a] := by
  intro k hk
  match k, hk with
  | 0, _ => exact h

theorem costsP_snoc : ∀ (l : List (List Int)) (cs : List Int) (t : List Int) (c : Int), l.length = cs.length → costsP (l ++ [t]) (cs ++ [c]) = costsP l cs ++ ([44] ++ (numsP t ++ numsP [c]))
  | [], [], t, c, _ => by simp [costsP]
  | a :: l, b :: cs, t, c, h => by
    simp only [List.length_cons, Nat.add_right_cancel_iff] at h
    simp only [List.cons_append, costsP, costsP_snoc l cs t c h, List.append_assoc, List.nil_append]
theorem costsP_step (l : List (List Int)) (cs : List Int) (k : Nat) (h : k < l.length) (h' : l.length = cs.length) : costsP (l.take (k + 1)) (cs.take (k + 1)) = costsP (l.take k) (cs.take k) ++ ([44] ++ (numsP (nth [] l k) ++ numsP [nth 0 cs k])) := by
  rw [take_snoc [] l k h, take_snoc 0 cs k (by omega), costsP_snoc _ _ _ _ (by rw [List.length_take, List.length_take]; omega)]
theorem costsP_append : ∀ (l m : List (List Int)) (cs ds : List Int), l.length = cs.length → ∃ r, costsP (l ++ m) (cs ++ ds) = costsP l cs ++ r
  | [], m, [], ds, _ => ⟨_, rfl⟩
  | a :: l, m, b :: cs, ds, h => by
    simp only [List.length_cons, Nat.add_right_cancel_iff] at h
    obtain ⟨r, hr⟩ := costsP_append l m cs ds h
    exact ⟨r, by simp only [List.cons_append, costsP, hr, List.append_assoc, List.nil_append]⟩
theorem costsP_take_le (l : List (List Int)) (cs : List Int) (k : Nat) (h' : l.length = cs.length) : (costsP (l.take k) (cs.take k)).length ≤ (costsP l cs).length := by
  obtain ⟨r, hr⟩ := costsP_append (l.take k) (l.drop k) (cs.take k) (cs.drop k) (by rw [List.length_take, List.length_take]; omega)
  rw [List.take_append_drop, List.take_append_drop] at hr
  rw [hr, List.length_append]; omega
end Go.Proofs.YtgpgmmkkmoecmaaGreatDoor

/- What the printer's methods write. -/
namespace Go.Proofs.YtgpgmmkkmoecmaaGreatDoor
open Go.RowKit

/-- What the package's variables hold. -/
structure Env (w : World) : Prop where
  words : ∃ t fr, w.heap[0]? = some (.cells (wordsT.map fun l => Value.string ⟨l.toArray⟩).toArray t fr)
  hows : ∃ t fr, w.heap[1]? = some (.cells (howsT.map fun l => Value.string ⟨l.toArray⟩).toArray t fr)
  pow : Lib.TabIs Tryz.prog w "internal/strconv.uint64pow10" .u64 Lib.pow10Tab
  syn : ∃ tp p, w.var? Tryz.prog "strconv.ErrSyntax" = some #[.iface tp p]
  rng : ∃ tp p, w.var? Tryz.prog "strconv.ErrRange" = some #[.iface tp p]
  size : 8 ≤ w.heap.size
theorem var_below {P : Program} {w w' : World} {B : Nat} {name : String} {g : Nat} (hg : P.globalNamed name = some g) (hB : g < B) (hb : Below B w w') : w'.var? P name = w.var? P name := by
  simp only [World.var?, hg, Option.bind_some]
  rw [hb.block g hB]
theorem Env.below {w w' : World} {B : Nat} (h : Env w) (hb : Below B w w') (hB : 8 ≤ B) : Env w' where
  words := by obtain ⟨t, fr, h1⟩ := h.words; exact ⟨t, fr, (hb.block _ (by omega)).trans h1⟩
  hows := by obtain ⟨t, fr, h1⟩ := h.hows; exact ⟨t, fr, (hb.block _ (by omega)).trans h1⟩
  pow := (var_below (g := 2) (by kernel_rfl) (by omega) hb).trans h.pow
  syn := by obtain ⟨tp, p, h1⟩ := h.syn; exact ⟨tp, p, (var_below (g := 6) (by kernel_rfl) (by omega) hb).trans h1⟩
  rng := by obtain ⟨tp, p, h1⟩ := h.rng; exact ⟨tp, p, (var_below (g := 7) (by kernel_rfl) (by omega) hb).trans h1⟩
  size := Nat.le_trans h.size hb.size
theorem Env.word {w : World} (h : Env w) (k : Nat) (hk : k < 7) : w.cell? ⟨0, k, none⟩ = some (.string ⟨(nth [] wordsT k).toArray⟩) := by
  obtain ⟨t, fr, h1⟩ := h.words
  refine cell_at h1 ?_
  match k, hk with
  | 0, _ | 1, _ | 2, _ | 3, _ | 4, _ | 5, _ | 6, _ => rfl
theorem Env.how {w : World} (h : Env w) (k : Nat) (hk : k < 3) : w.cell? ⟨1, k, none⟩ = some (.string ⟨(nth [] howsT k).toArray⟩) := by
  obtain ⟨t, fr, h1⟩ := h.hows
  refine cell_at h1 ?_
  match k, hk with
  | 0, _ | 1, _ | 2, _ => rfl

theorem Kep.sl {α : Type} {d : Kd α} {w w1 : World} {ok : Nat → Prop} {v : Value} {xs : List α} {b : Nat} (hs : 0 < d.sz) (h : Sl d w ok v xs) (hk : Kep b w w1) (hok : ∀ k, ok k → k < b) : Sl d w1 ok v xs :=
  (h.move hs fun k ho _ => hk.below.block k (hok k ho)).mono fun _ h => h.1
theorem grow_below (w : World) (k : Nat) (os : Array Obj) : Below w.heap.size w (Go.Sort.grow (w.drewN k) os) :=
  ⟨rfl, rfl, rfl, by simp [Go.Sort.grow], fun i hi => by show (w.heap ++ os)[i]? = w.heap[i]?; rw [Array.getElem?_append, if_pos hi]⟩
theorem itoa_any (n : Int) (w : World) (h : Fit n) (he : Env w) :
    Calls Tryz.prog 15 #[.int .i64 n] w fun e w' => e = .returned (.string ⟨(Lib.itoa n).toArray⟩) ∧ Below w.heap.size w w' := by
  refine (Tryz.strconv_Itoa n (by have := h.1; omega) (by have := h.2; omega) w he.pow).mono ?_
  rintro e w' ⟨rfl, k, os, rfl⟩
  exact ⟨rfl, grow_below w k os⟩
theorem Bld.move {b : Nat} {l : List UInt8} {w w1 : World} (h : Bld b l w) (hb : Below w.heap.size w w1) : Bld b l w1 := by
  obtain ⟨p, v, hp, hbk, hown, hne, h0⟩ := h
  refine ⟨p, v, hp, block_kept hb hbk, hown.kept (row := none) ⟨hb.os, hb.tape, hb.output, hb.size, fun k hk _ => hb.block k hk⟩ ?_, hne, h0⟩
  cases v.ownBlock <;> simp

theorem kep_of_below {b : Nat} {w w1 : World} (hb : Below w.drew.heap.size w.drew w1) (hw : b ≤ w.heap.size) : Kep b w w1 :=
  ⟨(Below.drew (Below.refl b w)).trans (hb.mono hw), fun k _ hk _ _ => (hb.block k (Array.getElem?_eq_some_iff.1 hk).1).trans hk⟩
set_option maxRecDepth 100000 in
set_option maxHeartbeats 1000000 in
theorem numbers_any (b : Nat) (l : List UInt8) (v : Value) (xs : List Int) (ok : Nat → Prop) (w : World) (hB : Bld b l w) (hE : Env w) (hb8 : 8 ≤ b) (h1 : Sl (Kd.int .i64) w ok v xs) (hok : ∀ k, ok k → k < b ∨ ∃ c t fr, w.heap[k]? = some (.cells c t fr) ∧ t ≠ 5 ∧ k ≠ b) (hf : Fits xs) (hlen : l.length + (numsP xs).length ≤ 140737488355328) :
    Calls Tryz.prog 30 #[.pointer (some ⟨b, 0, none⟩), v] w fun e w' => e = .returned (.tuple #[]) ∧ Bld b (l ++ numsP xs) w' ∧ Kep b w w' := by
  have H1 := h1
  obtain ⟨A, c, rfl, hc, hm, hA⟩ := h1
  clear hA
  have hfx := Lib.hid hf
  clear hf
  have keep : ∀ W, Kep b w W → Sl (Kd.int .i64) W ok (.slice A xs.length c) xs := by
    intro W hk
    refine (H1.move (by decide) fun k ho hlt => ?_).mono fun _ h => h.1
    rcases hok k ho with h | ⟨c, t, fr, h, ht, hkb⟩
    · exact hk.below.block k h
    · exact (hk.others k _ h (by simpa using hkb) (fun c' fz e => ht (by injection e))).trans h.symm
  have HK := Lib.hid keep
  clear keep H1 hok
  have HE := Lib.hid hE
  have HB := Lib.hid hB
  clear hE hB
  go_enter Tryz.func30, Tryz.ntmps30
  go_wp2
  go_loopw [8] (fun i wr => ∃ k : Nat, i = .int .i64 k ∧ k ≤ xs.length ∧ Hid (Bld b (l ++ numsP (xs.take k)) wr) ∧ Hid (Kep b w wr)) (fun i _ => xs.length - (intOf i).toNat)
  case atStart => exact ⟨0, rfl, by omega, Lib.hid (by simpa [numsP] using HB.out), Lib.hid (Kep.refl _ _)⟩
  case round =>
    obtain ⟨k, rfl, hk, HB', HK'⟩ := hrel
    by_cases hlt : k < xs.length
    · obtain ⟨b1, o1, rfl, c1⟩ := (Sl.elems (HK.out _ HK'.out)).num hlt
      have hfk := hfx.out k hlt
      have hstep := numsP_snoc xs k hlt
      have hle := numsP_take_le xs (k + 1)
      have hit := Lib.hid (itoa_any (nth 0 xs k) wr.drew hfk (HE.out.below HK'.out.below.drew hb8))
      have hbl : l.length + (numsP (xs.take k)).length + (32 :: Lib.itoa (nth 0 xs k)).length ≤ 140737488355328 := by
        rw [hstep, List.length_append] at hle; omega
      have HS := Lib.hid hstep
      have HL := Lib.hid hbl
      have hil := Lib.itoa_length_le (nth 0 xs k) (by have := hfk.1; omega) (by have := hfk.2; omega)
      clear hstep hbl hle hfk
      have hdt : Hid ((ByteArray.mk #[32] ++ ByteArray.mk (Lib.itoa (nth 0 xs k)).toArray).data.toList = 32 :: Lib.itoa (nth 0 xs k)) := Lib.hid (by simp)
      have hsz : Hid ((l ++ numsP (xs.take k)).length + (ByteArray.mk #[32] ++ ByteArray.mk (Lib.itoa (nth 0 xs k)).toArray).size ≤ 140737488355328) := Lib.hid (by
        have := HL.out; rw [List.length_cons] at this; simp [ByteArray.size]; omega)
      have hbw : Hid (b ≤ wr.heap.size) := Lib.hid (by obtain ⟨_, _, _, h, _⟩ := HB'.out; have := lt_of_block h; omega)
      have HBd := Lib.hid (HB'.out.move (Below.drew (Below.refl wr.heap.size wr)))
      go_wp2
      go_region_with (first
        | (go_at_call 15; refine hit.out.mono ?_; rintro e w' ⟨rfl, hb⟩; have hb' := Lib.hid hb; clear hb)
        | (go_at_call 29; refine (writeString_any b _ _ _ (HBd.out.move hb'.out) hsz.out).mono ?_; rintro e w2 ⟨rfl, hB2, hk2⟩; rw [hdt.out] at hB2; have HB2 := Lib.hid hB2; have HK2 := Lib.hid hk2; clear hB2 hk2))
      go_wp2
      go_roundw
      case rel => exact ⟨k + 1, by go_num, by omega, Lib.hid (by rw [HS.out, ← List.append_assoc]; exact HB2.out), Lib.hid (HK'.out.trans ((kep_of_below hb'.out hbw.out).trans HK2.out))⟩
      case measure => simp [intOf]; omega
    · go_wp2
      go_end0
      have e : xs.take k = xs := List.take_of_length_le (by omega)
      rw [e] at HB'
      exact ⟨rfl, HB'.out, HK'.out⟩
end Go.Proofs.YtgpgmmkkmoecmaaGreatDoor

/- What the rows' lists give a walk; a start that meets them. -/
namespace Go.Proofs.YtgpgmmkkmoecmaaGreatDoor
open Go.ChangeShapes Go.WideShapes Go.ChangeAt Go.RowKit

theorem own_knob : ownKnob Tryz.prog.godebug = none := by kernel_rfl
theorem laid_out : laidOutB Tryz.prog = true := by kernel_rfl
def strData {H : Type} (ls : List (List UInt8)) : DataW H := .agg (ls.map fun l => .lit (.string l))
/-- An array of strings that reads as listed holds those strings. -/
theorem cells_of_strs {H : Type} {enc : TypeId × Value → H} {P : Program} {w : World} {base : Nat} {sp : Nat → Bool} {held : Bool} {fuel : Nat} {t e : TypeId} {n : Nat} {cs : List Value} {ls : List (List UInt8)} {p : List MemPlace}
    (ht : P.underlying t = some (.array n e)) (he : P.underlying e = some .string) (hce : P.cellsOf e = 1) (hct : P.cellsOf t = n)
    (h : DataW.trod enc P w base sp held fuel t cs = some (strData ls, p)) : cs = ls.map fun l => Value.string ⟨l.toArray⟩ := by
  cases fuel with
  | zero => simp [DataW.trod] at h
  | succ fuel =>
    simp only [DataW.trod, ht, hce, hct, Nat.mul_one] at h
    split at h
    · rename_i hl
      obtain ⟨xs, hm, hx⟩ := Option.map_eq_some_iff.1 h
      have hxs : xs.map (·.1) = ls.map fun l => (DataW.lit (.string l) : DataW H) := by
        have := congrArg Prod.fst hx
        simpa [strData] using this
      have hxl : xs.length = n := by simpa using Lib.mapM_length hm
      have hzl : ls.length = n := by
        have := congrArg List.length hxs
        simp at this
        omega
      apply List.ext_getElem?
      intro i
      by_cases hi : i < n
      · obtain ⟨b, hb, hf⟩ := Lib.mapM_at hm i i (by simp [hi])
        obtain ⟨s, hc, rfl, _⟩ := DataW.trod_string he hf
        have h1 : cs[i]? = some (.string s) := by
          have := congrArg (·[0]?) hc
          simpa [List.getElem?_take, List.getElem?_drop] using this
        have h2 : (xs.map (·.1))[i]? = some (DataW.lit (.string s.data.toList) : DataW H) := by simp [hb]
        rw [hxs] at h2
        simp only [List.getElem?_map, Option.map_eq_some_iff, DataW.lit.injEq, Lit.string.injEq] at h2
        obtain ⟨l', hl', he'⟩ := h2
        simp [h1, hl', he']
      · rw [List.getElem?_eq_none (by omega), List.getElem?_eq_none (by simp; omega)]
    · cases h
theorem strs_of_head {P : Program} {W : World} {name : String} {ls : List (List UInt8)} {rest : List (String × DataW Unit)} {g : Nat} {t e : TypeId} {n : Nat}
    (hg : P.globalNamed name = some g) (hty : (P.globals[g]?).map (·.type) = some t) (ht : P.underlying t = some (.array n e)) (he : P.underlying e = some .string) (hce : P.cellsOf e = 1) (hct : P.cellsOf t = n)
    (h : laidMet P ((name, strData ls) :: rest) W) : ∃ t fr, W.heap[g]? = some (.cells (ls.map fun l => Value.string ⟨l.toArray⟩).toArray t fr) := by
  obtain ⟨ps, ⟨g', t', cs, fuel, p, q, hg', ht', hvar, hd, _, _⟩, _⟩ := h
  obtain rfl := Option.some.inj (hg.symm.trans hg')
  obtain rfl := Option.some.inj (hty.symm.trans ht')
  have hc := cells_of_strs ht he hce hct hd
  simp only [World.var?, hg, Option.bind_some] at hvar
  split at hvar
  · rename_i cs' t fr hh
    injection hvar with hvar
    subst hvar
    exact ⟨t, fr, by rw [hh, ← hc]⟩
  · cases hvar
theorem iface_of_head {P : Program} {W : World} {name nm : String} {d : DataW Unit} {rest : List (String × DataW Unit)} {g : Nat} {t : TypeId} {ms : Array (String × TypeId)}
    (hg : P.globalNamed name = some g) (hty : (P.globals[g]?).map (·.type) = some t) (ht : P.underlying t = some (.interface ms))
    (h : laidMet P ((name, .iface nm d) :: rest) W) : ∃ tp p, W.var? P name = some #[.iface tp p] := by
  obtain ⟨ps, ⟨g', t', cs, fuel, p, q, hg', ht', hvar, hd, _, _⟩, _⟩ := h
  obtain rfl := Option.some.inj (hg.symm.trans hg')
  obtain rfl := Option.some.inj (hty.symm.trans ht')
  obtain ⟨f1, u, v, hcs, _, _⟩ := iface_of_trod ht hd
  exact ⟨u, v, by rw [hvar]; congr 1; exact Array.ext' hcs⟩
theorem size_of_head {P : Program} {W : World} {name : String} {d : DataW Unit} {rest : List (String × DataW Unit)} {g : Nat} (hg : P.globalNamed name = some g) (h : laidMet P ((name, d) :: rest) W) : g < W.heap.size := by
  obtain ⟨ps, ⟨g', t', cs, fuel, p, q, hg', ht', hvar, hd, _, _⟩, _⟩ := h
  obtain rfl := Option.some.inj (hg.symm.trans hg')
  simp only [World.var?, hg, Option.bind_some] at hvar
  split at hvar
  · rename_i hh; exact (Array.getElem?_eq_some_iff.1 hh).1
  · cases hvar
def rowLaid : List (String × DataW Unit) := [("math/bits.deBruijn32tab", Rows.laid_math_bits_deBruijn32tab), ("math/bits.deBruijn64tab", Rows.laid_math_bits_deBruijn64tab), ("internal/strconv.uint64pow10", Rows.laid_internal_strconv_uint64pow10), ("strconv.ErrRange", Rows.laid_strconv_ErrRange), ("strconv.ErrSyntax", Rows.laid_strconv_ErrSyntax), ("arborist/inst.words", Rows.laid_arborist_inst_words), ("arborist/inst.hows", Rows.laid_arborist_inst_hows)]
theorem env_of_laid {W : World} (h : laidMetH Tryz.prog rowLaid W) : Env W := by
  have h1 : laidMet Tryz.prog rowLaid W := h
  have h2 := h1.tail
  have h3 := h2.tail
  have h4 := h3.tail
  have h5 := h4.tail
  have h6 := h5.tail
  have h7 := h6.tail
  exact ⟨strs_of_head (g := 0) (t := 116) (ls := wordsT) (by kernel_rfl) (by kernel_rfl) Tryz.underlying116 Tryz.underlying9 (by kernel_rfl) (by kernel_rfl) h6,
    strs_of_head (g := 1) (t := 118) (ls := howsT) (by kernel_rfl) (by kernel_rfl) Tryz.underlying118 Tryz.underlying9 (by kernel_rfl) (by kernel_rfl) h7,
    Lib.tabIs_of_head (g := 2) (t := 322) (by kernel_rfl) (by kernel_rfl) Tryz.underlying322 Tryz.underlying174 (by kernel_rfl) (by kernel_rfl) h3,
    iface_of_head (g := 6) (t := 67) (by kernel_rfl) (by kernel_rfl) Tryz.underlying67 h5,
    iface_of_head (g := 7) (t := 67) (by kernel_rfl) (by kernel_rfl) Tryz.underlying67 h4,
    by first | exact size_of_head (g := 3) (by kernel_rfl) h2 | exact size_of_head (g := 7) (by kernel_rfl) h4 | exact size_of_head (g := 6) (by kernel_rfl) h5⟩
theorem laid_met (os : Os) (args : Array Value) : laidMet Tryz.prog rowLaid ((World.doorLaid Tryz.prog 200 os).forCall (fun _ _ => 0) ⟨#[], args, []⟩).memory :=
  laidMet_of_run' 8 (by kernel_rfl) (by kernel_rfl)
end Go.Proofs.YtgpgmmkkmoecmaaGreatDoor

/- From a contract 'true, and what was there stands' to the form's claims; a slice of bytes opened. -/
namespace Go.Proofs.YtgpgmmkkmoecmaaGreatDoor
open Go.ChangeShapes Go.WideShapes Go.ChangeAt Go.RowKit

/-- One argument, the answer true: what 'post' asks. -/
theorem post_true1 {H : Type} {enc : TypeId × Value → H} {f : Func} {s : ChangeSpec} {W W' : World} {t : TypeId} {v0 : Value} {d0 : DataW H} {p0 : List MemPlace}
    (hp : f.params = #[t]) (hr : f.resultTypes = #[4]) (hsv : s.vars = []) (hfn : s.fn H [d0] = { results := [.lit (.bool true)], args := [d0] })
    (hrd : Tryz.prog.readableRec t = true) (ht : t < Tryz.prog.types.size)
    (h0 : DataW.Trod enc Tryz.prog W 0 (fun _ => true) true t v0 d0 p0)
    (hW : DataW.Whole enc Tryz.prog f.params.toList s.vars false W #[v0].toList [d0] [] p0) (hb : Below W.heap.size W W') :
    s.post enc Tryz.prog f false true false false W #[v0] (.bool true) W' := by
  have hlt : ∀ x ∈ p0, x.block < W.heap.size := fun x hx => by simpa using hW.lt x hx
  refine ⟨[d0], [], p0, [], p0 ++ [], [], by simpa using hW, ?_, ?_, ?_, hb.frame _, fun h => by cases h⟩
  · rw [hr, show ([d0] ++ [] : List (DataW H)) = [d0] from rfl, hfn]
    exact trodAll_cons_mk (shut_bool Tryz.underlying4 _) trodAll_mk0
  · rw [hp, show ([d0] ++ [] : List (DataW H)) = [d0] from rfl, hfn]
    exact trodAll_cons_mk (Below.trod laid_out hrd ht h0 hb hlt) trodAll_mk0
  · rw [hsv, show ([d0] ++ [] : List (DataW H)) = [d0] from rfl, hfn]
    exact rfl
set_option maxRecDepth 100000 in
/-- A slice of bytes, as it is handed in. -/
theorem open_bytes {H : Type} {enc : TypeId × Value → H} {W : World} {base : Nat} {sp : Nat → Bool} {v : Value} {d : DataW H} {ps : List MemPlace}
    (hv : Value.okWide Tryz.prog W .any base 61 v) (h : DataW.Trod enc Tryz.prog W 0 sp true 61 v d ps) (hsz : (DataW.weightsEach Tryz.prog [61] [d]).all (· ≤ reachBytes) = true) :
    ∃ xs, Sl (Kd.int .u8) W (fun _ => True) v xs ∧ ∀ k, k < xs.length → 0 ≤ nth 0 xs k ∧ nth 0 xs k ≤ 255 := by
  obtain ⟨a0, len, cap, rfl⟩ := okWide_slice Tryz.underlying61 hv
  obtain ⟨fuel, hf⟩ := h
  rcases open_ints Tryz.underlying61 Tryz.underlying5 (by kernel_rfl) hf with ⟨hcs, _⟩ | ⟨a, len', cap', zs, hcs, _, hl, hm, hz, hx, hcell, hwz⟩
  · simp [Value.cells] at hcs
    obtain ⟨rfl, rfl, rfl⟩ := hcs
    exact ⟨[], ⟨none, 0, rfl, Nat.le_refl _, by simp, fun j x hx => by simp at hx⟩, fun k hk => by simp at hk⟩
  · simp [Value.cells] at hcs
    obtain ⟨rfl, rfl, rfl⟩ := hcs
    simp only [Prod.mk.injEq] at hx
    obtain ⟨rfl, _⟩ := hx
    have hzl : len ≤ zs.length := by rw [hz]; split <;> omega
    have htl : (zs.take len).length = len := by rw [List.length_take]; omega
    have hlen : len ≤ 140737488355328 := by
      simp [DataW.weightsEach, DataW.weights, Tryz.underlying61, show Tryz.prog.bytesOf 5 = 1 from by kernel_rfl, lits, reachBytes] at hsz
      have := of_decide_eq_true hsz.1
      omega
    refine ⟨zs.take len, ⟨some a, cap, by rw [htl], by rw [htl]; exact hl, by rw [htl]; exact hlen, fun j x hx => ?_⟩, fun k hk => ?_⟩
    · have hj : j < len := by have := (List.getElem?_eq_some_iff.1 hx).1; omega
      have hc := hcell j (by omega)
      obtain ⟨b, o, spot⟩ := a
      have hspot : spot = none := by simpa [Addr.add] using World.cell?_spot (hcell 0 (by omega))
      subst hspot
      rw [List.getElem?_take_of_lt hj] at hx
      have hx' : zs.getD j 0 = x := by rw [List.getD_eq_getElem?_getD, hx]; rfl
      rw [hx'] at hc
      refine ⟨b, o, [.int .u8 x], rfl, trivial, rfl, fun i u hu => ?_⟩
      have hi : i = 0 := by have := (List.getElem?_eq_some_iff.1 hu).1; simp at this; exact this
      subst hi
      simp at hu
      subst hu
      have e : (⟨b, o, none⟩ : Addr).add j = ⟨b, o + (j * (Kd.int .u8).sz + 0), none⟩ := by
        simp only [Kd.int, Kd.scalar, Nat.mul_one, Nat.add_zero]
        unfold Addr.add; split <;> simp_all
      rw [e] at hc
      exact hc
    · rw [htl] at hk
      have hk2 : k < zs.length := by omega
      have hm : zs[k] ∈ zs := List.getElem_mem hk2
      have := hwz _ hm
      have he : nth 0 (zs.take len) k = zs[k] := by simp [nth, List.getD_eq_getElem?_getD, List.getElem?_take_of_lt hk, List.getElem?_eq_getElem hk2]
      rw [he]
      simpa [Lit.wf, IntKind.min, IntKind.max, IntKind.signed, IntKind.bits] using this
end Go.Proofs.YtgpgmmkkmoecmaaGreatDoor

/- What a row asks of the program, put together from parts. No program. -/
namespace Go.Proofs.YtgpgmmkkmoecmaaGreatDoor
open Go

theorem joined_of {P : Program} {f : FuncId} {fn : Func} {s : ChangeSpec} {c : OpenClaim}
    (a1 : c.wf (OpenSpec.ofChange s) = true) (a2 : laidOutB P = true) (a3 : mapsRowed P = true) (a4 : fn.params.all (P.readableRec ·) = true) (a5 : namedTie P c.named s.vars = true)
    (a6 : (c.stops == []) = true) (a7 : P.stops = []) (a8 : (c.knobs == []) = true) (a9 : P.stopKnobs = [])
    (b1 : P.inPlace f = c.inPlace) (b2 : P.unfollowed f = c.unfollowed) (b3 : P.recurses f = c.recurses) (b4 : P.varsNamed f = c.named)
    (c1 : (c.maps == (fn.params.toList ++ s.plain.varTypes P).any (P.mapsRec ·)) = true) (c2 : (c.ifaces == (fn.params.toList ++ s.plain.varTypes P).any (P.ifacesRec ·)) = true) (c3 : (c.mapsOut == P.mapsAmong fn.resultTypes.toList) = true)
    (c4 : (c.loops == (fn.params.toList ++ s.plain.varTypes P).any (P.loopsFrom ·)) = true) (c5 : (c.wideKeys == (fn.params.toList ++ s.plain.varTypes P ++ fn.resultTypes.toList).any (P.wideKeysFrom ·)) = true)
    (d1 : s.vars.all (P.varReadable ·) = true) (d2 : fn.resultTypes.all (fun t => P.readableRec t && decide (t < P.types.size)) = true) (d3 : (c.ifacesOut == fn.resultTypes.toList.any (P.ifacesRec ·)) = true) (d4 : (c.loopsOut == fn.resultTypes.toList.any (P.loopsFrom ·)) = true)
    (d5 : P.plainKeys = c.plainKeys) (d6 : c.shortTexts.isNone = true) (d7 : P.stopsHeard = true) (d8 : P.mayEnter = true) (d9 : P.liftsFinal = c.lifted) (e1 : (P.make == some c.make) = true)
    (e2 : (c.kinds == (if c.domain.isEmpty then [] else fn.params.toList.map fun t => match P.underlying t with | some (.int k) => some k | _ => none)) = true) (e3 : (c.pinned == c.pinnedBy) = true)
    (e4 : (c.veiled == (fn.params.toList ++ s.plain.varTypes P ++ fn.resultTypes.toList).any (P.veiledRec ·)) = true) (e5 : c.veiledFits P fn.params.toList (fn.params.toList ++ s.plain.varTypes P ++ fn.resultTypes.toList) = true) :
    joinedFacts P f fn s c = true := by
  have a7' : (P.stops == []) = true := beq_iff_eq.2 a7
  have a9' : (P.stopKnobs == []) = true := beq_iff_eq.2 a9
  have b1' : (c.inPlace == P.inPlace f) = true := beq_iff_eq.2 b1.symm
  have b2' : (c.unfollowed == P.unfollowed f) = true := beq_iff_eq.2 b2.symm
  have b3' : (c.recurses == P.recurses f) = true := beq_iff_eq.2 b3.symm
  have b4' : (c.named == P.varsNamed f) = true := beq_iff_eq.2 b4.symm
  have d5' : (c.plainKeys == P.plainKeys) = true := beq_iff_eq.2 d5.symm
  have d9' : (c.lifted == P.liftsFinal) = true := beq_iff_eq.2 d9.symm
  unfold joinedFacts
  simp only [Bool.and_eq_true]
  repeat' (first | assumption | apply And.intro)
end Go.Proofs.YtgpgmmkkmoecmaaGreatDoor

/- Facts about the program that its claims ask for, one at a time. -/
namespace Go.Proofs.YtgpgmmkkmoecmaaGreatDoor
theorem fact_mapsRowed : mapsRowed Tryz.prog = true := by kernel_rfl
theorem fact_stopsHeard : Tryz.prog.stopsHeard = true := by kernel_rfl
theorem fact_mayEnter : Tryz.prog.mayEnter = true := by kernel_rfl
theorem fact_lifts : Tryz.prog.liftsFinal = Rows.topNamesRow.lifted := by kernel_rfl
theorem fact_keys : Tryz.prog.plainKeys = Rows.topNamesRow.plainKeys := by kernel_rfl
theorem fact_stops : Tryz.prog.stops = [] := by kernel_rfl
theorem fact_knobs : Tryz.prog.stopKnobs = [] := by kernel_rfl
end Go.Proofs.YtgpgmmkkmoecmaaGreatDoor

/- Facts about the program that the row of arboristtop.TopNames asks for. -/
namespace Go.Proofs.YtgpgmmkkmoecmaaGreatDoor.topNames
open Go.ChangeShapes Go.WideShapes Go.ChangeAt Go.RowKit
theorem inPlace : Tryz.prog.inPlace 3 = Rows.topNamesRow.inPlace := by kernel_rfl
theorem unfollowed : Tryz.prog.unfollowed 3 = Rows.topNamesRow.unfollowed := by kernel_rfl
theorem recurses : Tryz.prog.recurses 3 = Rows.topNamesRow.recurses := by kernel_rfl
theorem named : Tryz.prog.varsNamed 3 = Rows.topNamesRow.named := by kernel_rfl
theorem closed : joinedFacts Tryz.pinned.checked.prog 3 Tryz.f3 (OpenSpec.ofChange Rows.topNamesSpec).bare Rows.topNamesRow = true :=
  joined_of (by kernel_rfl) laid_out fact_mapsRowed (by kernel_rfl) (by kernel_rfl) (by kernel_rfl) fact_stops (by kernel_rfl) fact_knobs inPlace unfollowed recurses named
    (by kernel_rfl) (by kernel_rfl) (by kernel_rfl) (by kernel_rfl) (by kernel_rfl) (by kernel_rfl) (by kernel_rfl) (by kernel_rfl) (by kernel_rfl) fact_keys (by kernel_rfl) fact_stopsHeard fact_mayEnter fact_lifts (by kernel_rfl) (by kernel_rfl) (by kernel_rfl) (by kernel_rfl) (by kernel_rfl)
end Go.Proofs.YtgpgmmkkmoecmaaGreatDoor.topNames

/- Closed calls, evaluated: values whose blocks have names; tables by number. Plain lemmas over the model; no program. -/
namespace Go.Proofs.YtgpgmmkkmoecmaaGreatDoor
open Go

/-- A value; blocks are named. s: a slice; r: its capacity is that of its block, less c; otherwise it is c. z: an empty slice, nil or not; y: an empty one, behind the end of what is in use. -/
inductive AV where
  | c (v : Value)
  | p (i o : Nat)
  | s (i o n : Nat) (r : Bool) (c : Nat)
  | z (i : Nat)
  | y (i o e c l : Nat)
  | m (i : Nat)
  | g (l : List AV)
  | t (l : List AV)
  | f (k : Nat) (u l : List AV)
  deriving Inhabited
/-- What a name stands for: the block; where in it; how many elements there is room for; the address of an empty slice. -/
structure Bk where
  b : Nat
  o : Nat
  k : Nat
  nl : Option Addr
abbrev Nm := Nat → Option Bk
mutual
def conc (γ : Nm) : AV → Option Value
  | .c v => some v
  | .p i o => (γ i).map fun x => .pointer (some ⟨x.b, x.o + o, none⟩)
  | .s i o n r c => (γ i).bind fun x => bif r && Nat.blt x.k (n + c) then none else some (.slice (some ⟨x.b, x.o + o, none⟩) n (bif r then x.k - c else c))
  | .z i => (γ i).map fun x => .slice x.nl 0 x.k
  | .y i o e c l => (γ i).bind fun x => bif Nat.blt x.k (c + l) then none else some (.slice (some ⟨x.b, x.o + (if x.k - c = l then o else o + l * e), none⟩) 0 (x.k - c - l))
  | .m i => (γ i).map fun x => .map (some x.b)
  | .g l => (concL γ l).map fun vs => .agg vs.toArray
  | .t l => (concL γ l).map fun vs => .tuple vs.toArray
  | .f k u l => match concL γ u with
    | none => none
    | some us => (concL γ l).map fun vs => .func (.func k) us.toArray vs.toArray
def concL (γ : Nm) : List AV → Option (List Value)
  | [] => some []
  | x :: l => match conc γ x with
    | none => none
    | some v => (concL γ l).map (v :: ·)
end
/-- More names, and what had a name keeps it. -/
def Ext (γ γ' : Nm) : Prop := ∀ i x, γ i = some x → γ' i = some x
theorem Ext.refl (γ : Nm) : Ext γ γ := fun _ _ h => h
theorem Ext.trans {a b c : Nm} (h : Ext a b) (h' : Ext b c) : Ext a c := fun i x hx => h' i x (h i x hx)
mutual
theorem conc_ext {γ γ' : Nm} (h : Ext γ γ') : ∀ (x : AV) {v : Value}, conc γ x = some v → conc γ' x = some v
  | .c _, _, hv => by simpa [conc] using hv
  | .p i o, _, hv => by
    simp only [conc, Option.map_eq_some_iff] at hv ⊢
    obtain ⟨a, ha, e⟩ := hv; exact ⟨a, h _ _ ha, e⟩
  | .s i o n r c, _, hv => by
    simp only [conc, Option.bind_eq_some_iff] at hv ⊢
    obtain ⟨a, ha, e⟩ := hv; exact ⟨a, h _ _ ha, e⟩
  | .m i, _, hv => by
    simp only [conc, Option.map_eq_some_iff] at hv ⊢
    obtain ⟨a, ha, e⟩ := hv; exact ⟨a, h _ _ ha, e⟩
  | .y i o e c l, _, hv => by
    simp only [conc, Option.bind_eq_some_iff] at hv ⊢
    obtain ⟨a, ha, e⟩ := hv; exact ⟨a, h _ _ ha, e⟩
  | .z i, _, hv => by
    simp only [conc, Option.map_eq_some_iff] at hv ⊢
    obtain ⟨a, ha, e⟩ := hv; exact ⟨a, h _ _ ha, e⟩
  | .g l, _, hv => by
    simp only [conc, Option.map_eq_some_iff] at hv ⊢
    obtain ⟨a, ha, e⟩ := hv; exact ⟨a, concL_ext h l ha, e⟩
  | .t l, _, hv => by
    simp only [conc, Option.map_eq_some_iff] at hv ⊢
    obtain ⟨a, ha, e⟩ := hv; exact ⟨a, concL_ext h l ha, e⟩
  | .f k u l, _, hv => by
    simp only [conc] at hv ⊢
    cases hu : concL γ u with
    | none => simp [hu] at hv
    | some us =>
      simp only [hu, Option.map_eq_some_iff] at hv
      obtain ⟨a, ha, e⟩ := hv
      simp [concL_ext h u hu, concL_ext h l ha, e]
theorem concL_ext {γ γ' : Nm} (h : Ext γ γ') : ∀ (l : List AV) {vs : List Value}, concL γ l = some vs → concL γ' l = some vs
  | [], _, hv => by simpa [concL] using hv
  | x :: l, vs, hv => by
    simp only [concL] at hv ⊢
    cases hx : conc γ x with
    | none => simp [hx] at hv
    | some v =>
      simp only [hx, Option.map_eq_some_iff] at hv
      obtain ⟨a, ha, e⟩ := hv
      simp [conc_ext h x hx, concL_ext h l ha, e]
end
section
variable {γ : Nm}
theorem concL_cons {x : AV} {l : List AV} {vs : List Value} : concL γ (x :: l) = some vs ↔ ∃ v r, conc γ x = some v ∧ concL γ l = some r ∧ vs = v :: r := by
  simp only [concL]
  cases conc γ x with
  | none => simp
  | some v =>
    simp only [Option.map_eq_some_iff, Option.some.injEq]
    exact ⟨fun ⟨a, h, e⟩ => ⟨v, a, rfl, h, e.symm⟩, fun ⟨_, a, e, h, e2⟩ => ⟨a, h, by rw [e2, e]⟩⟩
theorem concL_len : ∀ {l : List AV} {vs : List Value}, concL γ l = some vs → vs.length = l.length
  | [], vs, h => by simp [concL] at h; subst h; simp
  | x :: l, vs, h => by
    obtain ⟨v, r, _, hr, rfl⟩ := concL_cons.1 h
    simp [concL_len hr]
theorem concL_get : ∀ {l : List AV} {vs : List Value}, concL γ l = some vs → ∀ (i : Nat), vs[i]? = (l[i]?).bind (conc γ)
  | [], vs, h, i => by simp [concL] at h; subst h; simp
  | x :: l, vs, h, i => by
    obtain ⟨v, r, hv, hr, rfl⟩ := concL_cons.1 h
    cases i with
    | zero => simp [hv]
    | succ i => simpa using concL_get hr i
theorem concL_append : ∀ {l l' : List AV} {vs vs' : List Value}, concL γ l = some vs → concL γ l' = some vs' → concL γ (l ++ l') = some (vs ++ vs')
  | [], _, vs, _, h, h' => by simp [concL] at h; subst h; simpa using h'
  | x :: l, _, vs, _, h, h' => by
    obtain ⟨v, r, hv, hr, rfl⟩ := concL_cons.1 h
    exact concL_cons.2 ⟨v, _, hv, concL_append hr h', rfl⟩
theorem concL_take : ∀ {l : List AV} {vs : List Value} (n : Nat), concL γ l = some vs → concL γ (l.take n) = some (vs.take n)
  | [], vs, n, h => by simp [concL] at h; subst h; simp [concL]
  | x :: l, vs, 0, h => by simp [concL]
  | x :: l, vs, n + 1, h => by
    obtain ⟨v, r, hv, hr, rfl⟩ := concL_cons.1 h
    exact concL_cons.2 ⟨v, _, hv, concL_take n hr, rfl⟩
theorem concL_drop : ∀ {l : List AV} {vs : List Value} (n : Nat), concL γ l = some vs → concL γ (l.drop n) = some (vs.drop n)
  | [], vs, n, h => by simp [concL] at h; subst h; simp [concL]
  | x :: l, vs, 0, h => by simpa using h
  | x :: l, vs, n + 1, h => by
    obtain ⟨v, r, hv, hr, rfl⟩ := concL_cons.1 h
    exact concL_drop n hr
theorem concL_set : ∀ {l : List AV} {vs : List Value} {x : AV} {v : Value} (n : Nat), concL γ l = some vs → conc γ x = some v → concL γ (l.set n x) = some (vs.set n v)
  | [], vs, _, _, n, h, _ => by simp [concL] at h; subst h; simp [concL]
  | y :: l, vs, x, v, 0, h, hx => by
    obtain ⟨u, r, hu, hr, rfl⟩ := concL_cons.1 h
    exact concL_cons.2 ⟨v, r, hx, hr, rfl⟩
  | y :: l, vs, x, v, n + 1, h, hx => by
    obtain ⟨u, r, hu, hr, rfl⟩ := concL_cons.1 h
    exact concL_cons.2 ⟨u, _, hu, concL_set n hr hx, rfl⟩
theorem concL_c : ∀ (l : List Value), concL γ (l.map .c) = some l
  | [] => rfl
  | v :: l => concL_cons.2 ⟨v, l, rfl, concL_c l, rfl⟩
end
theorem conc_slice {γ : Nm} {i o n c : Nat} {r : Bool} {v : Value} (h : conc γ (.s i o n r c) = some v) : ∃ a b d, v = .slice a b d := by
  simp only [conc, Option.bind_eq_some_iff] at h
  obtain ⟨a, _, e⟩ := h
  revert e
  cases (r && Nat.blt a.k (n + c)) with
  | true => simp
  | false => intro e; simp only [cond_false, Option.some.injEq] at e; exact ⟨_, _, _, e.symm⟩
theorem conc_empty {γ : Nm} {i o e c l : Nat} {v : Value} (h : conc γ (.y i o e c l) = some v) : ∃ a d, v = .slice (some a) 0 d := by
  simp only [conc, Option.bind_eq_some_iff] at h
  obtain ⟨a, _, e⟩ := h
  revert e
  cases Nat.blt a.k (c + l) with
  | true => simp
  | false => intro e; simp only [cond_false, Option.some.injEq] at e; exact ⟨_, _, e.symm⟩
theorem conc_func {γ : Nm} {k : Nat} {u l : List AV} {v : Value} (h : conc γ (.f k u l) = some v) : ∃ us vs, concL γ u = some us ∧ concL γ l = some vs ∧ v = .func (.func k) us.toArray vs.toArray := by
  simp only [conc] at h
  cases hu : concL γ u with
  | none => simp [hu] at h
  | some us =>
    simp only [hu, Option.map_eq_some_iff] at h
    obtain ⟨a, ha, e⟩ := h
    exact ⟨us, a, rfl, ha, e.symm⟩
/-- A value's cells. -/
def AV.cells : AV → List AV
  | .g l => l
  | .c (.agg cs) => cs.toList.map .c
  | x => [x]
theorem cells_conc {γ : Nm} {x : AV} {v : Value} (h : conc γ x = some v) : concL γ x.cells = some v.cells.toList := by
  have one : ∀ {y : AV} {u : Value}, conc γ y = some u → (∀ cs, u ≠ .agg cs) → concL γ [y] = some u.cells.toList := by
    intro y u hy hu
    refine concL_cons.2 ⟨u, [], hy, rfl, ?_⟩
    cases u <;> first | rfl | exact absurd rfl (hu _)
  cases x with
  | g l =>
    simp only [conc, Option.map_eq_some_iff] at h
    obtain ⟨a, ha, rfl⟩ := h
    simpa [AV.cells, Value.cells] using ha
  | c u =>
    simp only [conc, Option.some.injEq] at h
    subst h
    cases u with
    | agg cs => simpa [AV.cells, Value.cells] using concL_c cs.toList
    | _ => exact one rfl (by simp)
  | p i o =>
    refine one h ?_
    simp only [conc, Option.map_eq_some_iff] at h
    obtain ⟨a, _, rfl⟩ := h; simp
  | s i o n r c =>
    refine one h ?_
    obtain ⟨a, b, d, rfl⟩ := conc_slice h
    simp
  | m i =>
    refine one h ?_
    simp only [conc, Option.map_eq_some_iff] at h
    obtain ⟨a, _, rfl⟩ := h; simp
  | y i o e c l =>
    refine one h ?_
    obtain ⟨a, d, rfl⟩ := conc_empty h
    simp
  | z i =>
    refine one h ?_
    simp only [conc, Option.map_eq_some_iff] at h
    obtain ⟨a, _, rfl⟩ := h; simp
  | t l =>
    refine one h ?_
    simp only [conc, Option.map_eq_some_iff] at h
    obtain ⟨a, _, rfl⟩ := h; simp
  | f k u l =>
    refine one h ?_
    obtain ⟨us, vs, _, _, rfl⟩ := conc_func h
    simp
/-- It may stand in one cell. -/
def AV.flat : AV → Bool
  | .g _ | .t _ | .c (.agg _) | .c (.tuple _) => false
  | _ => true
theorem flat_conc {γ : Nm} {x : AV} {v : Value} (hf : x.flat = true) (h : conc γ x = some v) : (∀ cs, v ≠ .agg cs) ∧ ∀ cs, v ≠ .tuple cs := by
  cases x with
  | c u =>
    simp only [conc, Option.some.injEq] at h
    subst h
    cases u <;> simp_all [AV.flat]
  | g l => simp [AV.flat] at hf
  | t l => simp [AV.flat] at hf
  | s i o n r c => obtain ⟨a, b, d, rfl⟩ := conc_slice h; simp
  | y i o e c l => obtain ⟨a, d, rfl⟩ := conc_empty h; simp
  | f k u l => obtain ⟨us, vs, _, _, rfl⟩ := conc_func h; simp
  | _ =>
    simp only [conc, Option.map_eq_some_iff] at h
    obtain ⟨a, _, rfl⟩ := h; simp
/-! ### Tables -/
inductive Tr (α : Type) where
  | e
  | n (l : Tr α) (v : Option α) (r : Tr α)
noncomputable def Tr.get {α : Type} (t : Tr α) : Nat → Option α := Tr.rec (motive := fun _ => Nat → Option α) (fun _ => none) (fun _ v _ gl gr k => bif Nat.beq k 0 then v else bif Nat.beq (k % 2) 1 then gl (k / 2) else gr (k / 2 - 1)) t
/-- One entry alone. -/
noncomputable def Tr.one {α : Type} (x : Option α) (f : Nat) : Nat → Tr α := Nat.rec (motive := fun _ => Nat → Tr α) (fun _ => .e) (fun _ g k => bif Nat.beq k 0 then .n .e x .e else bif Nat.beq (k % 2) 1 then .n (g (k / 2)) none .e else .n .e none (g (k / 2 - 1))) f
noncomputable def Tr.put {α : Type} (t : Tr α) (k : Nat) (x : Option α) : Tr α := Tr.rec (motive := fun _ => Nat → Tr α) (fun k => Tr.one x 40 k) (fun l v r gl gr k => bif Nat.beq k 0 then .n l x r else bif Nat.beq (k % 2) 1 then .n (gl (k / 2)) v r else .n l v (gr (k / 2 - 1))) t k
section
variable {α : Type}
theorem beq_dec (a b : Nat) : Nat.beq a b = decide (a = b) := by
  by_cases hab : a = b
  · subst hab; simp
  · rw [decide_eq_false hab]; exact Bool.eq_false_iff.2 fun h => hab (Nat.eq_of_beq_eq_true h)
theorem Tr.get_e (k : Nat) : (Tr.e : Tr α).get k = none := rfl
theorem Tr.get_n (l r : Tr α) (v : Option α) (k : Nat) : (Tr.n l v r).get k = if k = 0 then v else if k % 2 = 1 then l.get (k / 2) else r.get (k / 2 - 1) := by
  show (bif Nat.beq k 0 then v else bif Nat.beq (k % 2) 1 then l.get (k / 2) else r.get (k / 2 - 1)) = _
  rw [beq_dec, beq_dec]
  by_cases h0 : k = 0
  · simp [h0]
  · by_cases h1 : k % 2 = 1 <;> simp [h0, h1]
theorem Tr.one_s (x : Option α) (f k : Nat) : Tr.one x (f + 1) k = if k = 0 then .n .e x .e else if k % 2 = 1 then .n (Tr.one x f (k / 2)) none .e else .n .e none (Tr.one x f (k / 2 - 1)) := by
  show (bif Nat.beq k 0 then Tr.n Tr.e x Tr.e else bif Nat.beq (k % 2) 1 then Tr.n (Tr.one x f (k / 2)) none Tr.e else Tr.n Tr.e none (Tr.one x f (k / 2 - 1))) = _
  rw [beq_dec, beq_dec]
  by_cases h0 : k = 0
  · simp [h0]
  · by_cases h1 : k % 2 = 1 <;> simp [h0, h1]
theorem Tr.put_n (l r : Tr α) (v x : Option α) (k : Nat) : (Tr.n l v r).put k x = if k = 0 then .n l x r else if k % 2 = 1 then .n (l.put (k / 2) x) v r else .n l v (r.put (k / 2 - 1) x) := by
  show (bif Nat.beq k 0 then Tr.n l x r else bif Nat.beq (k % 2) 1 then Tr.n (l.put (k / 2) x) v r else Tr.n l v (r.put (k / 2 - 1) x)) = _
  rw [beq_dec, beq_dec]
  by_cases h0 : k = 0
  · simp [h0]
  · by_cases h1 : k % 2 = 1 <;> simp [h0, h1]
theorem Tr.get_one (x : Option α) : ∀ (f k j : Nat), k + 1 < 2 ^ f → (Tr.one x f k).get j = if j = k then x else none := by
  intro f
  induction f with
  | zero => intro k j h; simp at h
  | succ f ih =>
    intro k j h
    have h2 : 2 ^ (f + 1) = 2 * 2 ^ f := by rw [Nat.pow_succ]; omega
    rw [Tr.one_s]
    by_cases k0 : k = 0
    · subst k0; simp only [if_true, Tr.get_n, Tr.get_e]
      by_cases j0 : j = 0 <;> simp [j0]
    · by_cases k1 : k % 2 = 1
      · simp only [k0, k1, if_true, if_false, Tr.get_n, Tr.get_e]
        by_cases j0 : j = 0
        · have : ¬ 0 = k := by omega
          simp [j0, this]
        · by_cases j1 : j % 2 = 1
          · simp only [j0, j1, if_true, if_false]
            rw [ih _ _ (by omega)]
            by_cases hjk : j = k
            · simp [hjk]
            · have : ¬ j / 2 = k / 2 := by omega
              simp [hjk, this]
          · have : ¬ j = k := by intro e; exact j1 (e ▸ k1)
            simp [j0, j1, this]
      · simp only [k0, k1, if_false, Tr.get_n, Tr.get_e]
        by_cases j0 : j = 0
        · have : ¬ 0 = k := by omega
          simp [j0, this]
        · by_cases j1 : j % 2 = 1
          · have : ¬ j = k := by intro e; exact k1 (e ▸ j1)
            simp [j0, j1, this]
          · simp only [j0, j1, if_false]
            rw [ih _ _ (by omega)]
            by_cases hjk : j = k
            · simp [hjk]
            · have : ¬ j / 2 - 1 = k / 2 - 1 := by omega
              simp [hjk, this]
theorem Tr.get_put_aux (x : Option α) (t : Tr α) : ∀ (k j : Nat), k + 1 < 2 ^ 40 → (t.put k x).get j = if j = k then x else t.get j := by
  induction t with
  | e => intro k j h; exact Tr.get_one x 40 k j h
  | n l v r ihl ihr =>
    intro k j h
    rw [Tr.put_n]
    by_cases k0 : k = 0
    · subst k0; simp only [if_true, Tr.get_n]
      by_cases j0 : j = 0 <;> simp [j0]
    · by_cases k1 : k % 2 = 1
      · simp only [k0, k1, if_true, if_false, Tr.get_n]
        by_cases j0 : j = 0
        · have : ¬ 0 = k := by omega
          simp [j0, this]
        · by_cases j1 : j % 2 = 1
          · simp only [j0, j1, if_true, if_false]
            rw [ihl _ _ (by omega)]
            by_cases hjk : j = k
            · simp [hjk]
            · have : ¬ j / 2 = k / 2 := by omega
              simp [hjk, this]
          · have : ¬ j = k := by intro e; exact j1 (e ▸ k1)
            simp [j0, j1, this]
      · simp only [k0, k1, if_false, Tr.get_n]
        by_cases j0 : j = 0
        · have : ¬ 0 = k := by omega
          simp [j0, this]
        · by_cases j1 : j % 2 = 1
          · have : ¬ j = k := by intro e; exact k1 (e ▸ j1)
            simp [j0, j1, this]
          · simp only [j0, j1, if_false]
            rw [ihr _ _ (by omega)]
            by_cases hjk : j = k
            · simp [hjk]
            · have : ¬ j / 2 - 1 = k / 2 - 1 := by omega
              simp [hjk, this]
end
/-- Numbers in use stay below this. -/
theorem Tr.get_put {α : Type} {t : Tr α} {k j : Nat} {x : Option α} (h : k < 1000000000) : (t.put k x).get j = if j = k then x else t.get j :=
  Tr.get_put_aux x t k j (by have : (2:Nat) ^ 40 = 1099511627776 := by decide
                             omega)
end Go.Proofs.YtgpgmmkkmoecmaaGreatDoor

/- Closed calls, evaluated: what each operation does to named blocks. Definitions; no program. -/
namespace Go.Proofs.YtgpgmmkkmoecmaaGreatDoor
open Go
noncomputable section

/-- A block. cells: all of it, or (g) what is in use of what 'append' made; ro: what can be read of it; map. -/
inductive AO where
  | cells (l : List AV) (e : TypeId) (g : Bool)
  | ro (l : List AV)
  | map (es : List (Value × AV))
  | iter (m : Nat)
structure ES where
  h : Tr AO
  x : Nat
/-- Where: the program; names below G are package variables; calls that are answered otherwise. -/
structure Ev where
  P : Program
  G : Nat
  ov : Nat → List AV → ES → Option (Option (AV × ES))
/-- What a computation without memory gives. -/
def valS {α : Type} (P : Program) : Sem α → Option α
  | .pure a => some a
  | .program k => valS P (k P)
  | .mark _ k => valS P k
  | _ => none
def aev (tm : Tr AV) : Operand → AV
  | .tmp t => match tm.get t with
    | some v => v
    | none => .c undef
  | .const v => .c v
  | .global g => .c (.pointer (some ⟨g, 0, none⟩))
  | .func f => .f f [] []
section
variable (E : Ev)
def szOf (t : TypeId) : Option Nat := (E.P.info? t).map (·.size)
def aggB (t : TypeId) : Option Bool := match E.P.underlying t with
  | some (.struct _) | some (.array _ _) => some true
  | some _ => some false
  | none => none
def zeroV (t : TypeId) : Option Value := (E.P.info? t).bind (·.zero)
def addrA : AV → Option (Nat × Nat)
  | .p i o => some (i, o)
  | .c (.pointer (some ⟨b, o, none⟩)) => bif Nat.blt b E.G then some (b, o) else none
  | _ => none
def AO.list : AO → Option (List AV)
  | .cells l _ _ => some l
  | .ro l => some l
  | .map _ => none
  | .iter _ => none
def rd (st : ES) (i o n : Nat) : Option (List AV) := match st.h.get i with
  | none => none
  | some ob => match ob.list with
    | none => none
    | some l => bif Nat.ble (o + n) l.length then some ((l.drop o).take n) else none
def wr (st : ES) (i o : Nat) (vs : List AV) : Option ES := match st.h.get i with
  | some (.cells l e g) => bif Nat.ble (o + vs.length) l.length && vs.all AV.flat then some ⟨st.h.put i (some (.cells (l.take o ++ (vs ++ l.drop (o + vs.length))) e g)), st.x⟩ else none
  | _ => none
def ldA (st : ES) (t : TypeId) (x : AV) : Option AV := match addrA E x, aggB E t, szOf E t with
  | some (i, o), some true, some n => (rd st i o n).map .g
  | some (i, o), some false, _ => (rd st i o 1).bind (·.head?)
  | _, _, _ => none
/-- Of a value's cells, a part. -/
def partA (t : TypeId) (l : List AV) (o : Nat) : Option AV := match aggB E t, szOf E t with
  | some true, some n => bif Nat.ble (o + n) l.length then some (.g ((l.drop o).take n)) else none
  | some false, _ => l[o]?
  | _, _ => none
def eqA (d : TypeDesc) (x y : AV) : Option Bool := match d, x, y with
  | .pointer _, .p _ _, .c (.pointer none) => some false
  | .pointer _, .c (.pointer none), .p _ _ => some false
  | .slice _, .s .., .c (.slice none _ _) => some false
  | .slice _, .y .., .c (.slice none _ _) => some false
  | .slice _, .c (.slice none _ _), .s .. => some false
  | .map _ _, .m _, .c (.map none) => some false
  | .map _ _, .c (.map none), .m _ => some false
  | .func .., .f .., .c .nilFunc => some false
  | .func .., .c .nilFunc, .f .. => some false
  | _, _, _ => none
def idxA (ρ : Operand → AV) (d : Nat) : Option Operand → Option Nat
  | none => some d
  | some x => match ρ x with
    | .c (.int _ (.ofNat n)) => some n
    | _ => none
def sliceA (sz i o n : Nat) (r : Bool) (c l h : Nat) (m : Option Nat) : Option AV :=
  bif Nat.ble l h && (bif r then Nat.ble h n else Nat.ble h c) then
    match m with
    | none =>
      bif r then (bif Nat.beq l 0 then some (.s i o h true c) else bif Nat.blt l n then some (.s i (o + l * sz) (h - l) true (c + l)) else some (.y i o sz c l))
      else bif Nat.beq l c then some (.s i o 0 false 0) else some (.s i (o + l * sz) (h - l) false (c - l))
    | some m => bif Nat.ble h m && (bif r then Nat.ble m n else Nat.ble m c) then
        (bif Nat.beq l m then some (.s i o 0 false 0) else some (.s i (o + l * sz) (h - l) false (m - l)))
      else none
  else none
def fillA (place : Nat → Option (Nat × Nat)) (ρ : Operand → AV) : List (Nat × Operand) → List AV → Option (List AV)
  | [], l => some l
  | (i, x) :: rest, l => match place i with
    | none => none
    | some (o, n) => let vs := (ρ x).cells
      bif Nat.beq vs.length n && Nat.ble (o + n) l.length then fillA place ρ rest (l.take o ++ (vs ++ l.drop (o + n))) else none
def placesA : List Field → Option (List (Nat × Nat))
  | [] => some []
  | f :: fs => match szOf E f.type, placesA fs with
    | some n, some r => some ((f.offset, n) :: r)
    | _, _ => none
def zerosA (zero : List AV) (n : Nat) : List AV := (List.replicate n zero).flatten
def pPick (c a b : AV) : Option AV := match c with
  | .c (.bool t) => some (bif t then a else b)
  | _ => none
def pBin (op : BinOp) (t : TypeId) (x y : Operand) (a b : AV) : Option AV := match a, b with
  | .c u, .c v => (valS E.P (do eqGuard op t x y u v; binOp op t u v)).map .c
  | a, b => match op, E.P.underlying t with
    | .eql, some d => (eqA d a b).map fun r => .c (.bool r)
    | .neq, some d => (eqA d a b).map fun r => .c (.bool !r)
    | _, _ => none
def pUn (op : UnOp) : AV → Option AV
  | .c v => (valS E.P (Op.unary op v)).map .c
  | _ => none
def pConv (s d : TypeId) : AV → Option AV
  | .c v => (valS E.P (Go.convert s d v)).map .c
  | _ => none
def pFieldAddr (s f : Nat) (x : AV) : Option AV := match E.P.underlying s with
  | some (.struct fs) => match fs[f]? with
    | some fd => match szOf E fd.type, addrA E x with
      | some (_ + 1), some (i, o) => some (.p i (o + fd.offset))
      | _, _ => none
    | none => none
  | _ => none
def pField (t f : Nat) (x : AV) : Option AV := match E.P.underlying t with
  | some (.struct fs) => match fs[f]?, x with
    | some fd, .g l => partA E fd.type l fd.offset
    | some fd, .c (.agg cs) => partA E fd.type (cs.toList.map .c) fd.offset
    | _, _ => none
  | _ => none
def natA : AV → Option Nat
  | .c (.int _ (.ofNat n)) => some n
  | _ => none
def pIndexAddr (t : TypeId) (x ix : AV) : Option AV := match natA ix, E.P.underlying t with
  | some k, some (.slice e) => match x, szOf E e with
    | .s i o n _ _, some z => bif Nat.blt k n then some (.p i (o + k * z)) else none
    | _, _ => none
  | some k, some (.array n e) => match addrA E x, szOf E e with
    | some (i, o), some z => bif Nat.blt k n then some (.p i (o + k * z)) else none
    | _, _ => none
  | _, _ => none
def pIndex (t : TypeId) (x ix : AV) : Option AV := match x, ix with
  | .c u, .c v => (valS E.P (Instr.index t u v)).map .c
  | _, _ => none
def pExtract (x : AV) (i : Nat) : Option AV := match x with
  | .t l => l[i]?
  | .c (.tuple vs) => (vs[i]?).map .c
  | _ => none
def pNil : AV → Option AV
  | .p i o => some (.p i o)
  | .f k u l => some (.f k u l)
  | .c (.pointer (some a)) => some (.c (.pointer (some a)))
  | .c (.func (.func k) u l) => some (.c (.func (.func k) u l))
  | _ => none
/-- An operand that may lack. -/
def optA (ρ : Operand → AV) : Option Operand → Option (Option Value)
  | none => some none
  | some y => match ρ y with
    | .c u => some (some u)
    | _ => none
def pSlice (ρ : Operand → AV) (t : TypeId) (x : AV) (lo hi mx : Option Operand) : Option AV := match E.P.underlying t, x with
  | some (.slice e), .s i o n r c => bif hi.isNone && mx.isSome then none else match szOf E e, idxA ρ 0 lo, idxA ρ n hi, idxA ρ 0 mx with
    | some z, some l, some h, some m => sliceA z i o n r c l h (mx.map fun _ => m)
    | _, _, _, _ => none
  | some (.slice e), .y i o z c l => match szOf E e, idxA ρ 0 lo, idxA ρ 0 hi, mx with
    | some _, some 0, some 0, none => some (.y i o z c l)
    | _, _, _, _ => none
  | some _, .c v => match optA ρ lo, optA ρ hi, optA ρ mx with
    | some a, some b, some d => (valS E.P (Instr.sliceAt t v a b d)).map .c
    | _, _, _ => none
  | _, _ => none
def pBuild (ρ : Operand → AV) (t : TypeId) (parts : List (Nat × Operand)) : Option AV := match zeroV E t, E.P.underlying t with
  | some z, some (.struct fs) => match placesA E fs.toList with
    | some ps => (fillA (fun i => ps[i]?) ρ parts (z.cells.toList.map .c)).map .g
    | none => none
  | _, _ => none
def pLen (ty t : TypeId) (x : AV) : Option AV := match x, E.P.underlying t with
  | .s _ _ n _ _, some (.slice _) => some (.c (goInt n))
  | .z _, some (.slice _) => some (.c (goInt 0))
  | .y .., some (.slice _) => some (.c (goInt 0))
  | .c v, some _ => (valS E.P (Builtin.len_ #[t] ty #[v])).map .c
  | _, _ => none
def pCap (ty t : TypeId) (x : AV) : Option AV := match x, E.P.underlying t with
  | .s _ _ _ false c, some (.slice _) => some (.c (goInt c))
  | .c v, some _ => (valS E.P (Builtin.cap_ #[t] ty #[v])).map .c
  | _, _ => none
def pMin (ty : TypeId) (x y : AV) : Option AV := match x, y with
  | .c u, .c v => (valS E.P (Builtin.min_ #[] ty #[u, v])).map .c
  | _, _ => none
def pMax (ty : TypeId) (x y : AV) : Option AV := match x, y with
  | .c u, .c v => (valS E.P (Builtin.max_ #[] ty #[u, v])).map .c
  | _, _ => none
def pBuiltin (ty : TypeId) (b : Builtin) (xs : List AV) (ts : List TypeId) : Option AV := match b, xs, ts with
  | .len, [x], [t] => pLen E ty t x
  | .cap, [x], [t] => pCap E ty t x
  | .min, [x, y], _ => pMin E ty x y
  | .max, [x, y], _ => pMax E ty x y
  | _, _, _ => none
def evPure (ρ : Operand → AV) (ty : TypeId) : Op → Option AV
  | .move x => some (ρ x)
  | .assign x => some (ρ x)
  | .pick c a b => pPick (ρ c) (ρ a) (ρ b)
  | .binOp op t x y _ => pBin E op t x y (ρ x) (ρ y)
  | .unOp op _ x => pUn E op (ρ x)
  | .convert s d x => pConv E s d (ρ x)
  | .fieldAddr s x f => pFieldAddr E s f (ρ x)
  | .field t x f => pField E t f (ρ x)
  | .indexAddr t x ix => pIndexAddr E t (ρ x) (ρ ix)
  | .index t x ix => pIndex E t (ρ x) (ρ ix)
  | .extract x i => pExtract (ρ x) i
  | .makeFunc fn first cap => match fn with
    | .func f => some (.f f (first.toList.map ρ) (cap.toList.map ρ))
    | _ => none
  | .nilCheck x => pNil (ρ x)
  | .slice t x lo hi mx => pSlice E ρ t (ρ x) lo hi mx
  | .build t parts => pBuild E ρ t parts.toList
  | .call c => match c.callee with
    | .builtin b => pBuiltin E ty b (c.args.toList.map ρ) c.argTypes.toList
    | _ => none
  | _ => none
/-- Of a map: where a key is, and what it holds. -/
def findA (kind : TypeDesc) (k : Value) : List (Value × AV) → Nat → Option (Option (Nat × AV))
  | [], _ => some none
  | (key, v) :: es, i => match Instr.sameNow kind k key with
    | some true => some (some (i, v))
    | some false => findA kind k es (i + 1)
    | none => none
def bytesA : List AV → List UInt8 → Option (List UInt8)
  | [], acc => some acc.reverse
  | .c (.int .u8 n) :: l, acc => bytesA l (UInt8.ofNat n.toNat :: acc)
  | _ :: _, _ => none
def mapA (st : ES) : AV → Option (List (Value × AV))
  | .c (.map none) => some []
  | .m i => match st.h.get i with
    | some (.map es) => some es
    | _ => none
  | _ => none
def lLookup (st : ES) (t : TypeId) (x ix : AV) (ok : Bool) : Option AV := match E.P.underlying t, ix with
  | some (.map kt et), .c k => match E.P.underlying kt, zeroV E et, valS E.P (Instr.checkKey true 10000 kt k), valS E.P (Instr.checkKey false 10000 kt k) with
    | some kd, some z, some _, some _ =>
      match mapA st x with
      | none => none
      | some es => match findA kd k es 0 with
        | none => none
        | some none => some (bif ok then .t [.c z, .c (.bool false)] else .c z)
        | some (some (_, v)) => some (bif ok then .t [v, .c (.bool true)] else v)
    | _, _, _, _ => none
  | _, _ => none
def lConv (st : ES) (s d : TypeId) (x : AV) : Option AV := match E.P.underlying s, E.P.underlying d, x with
  | some (.slice e), some .string, .s i o n _ _ => match E.P.underlying e, rd st i o n with
    | some (.int .u8), some l => (bytesA l []).map fun bs => .c (.string ⟨bs.toArray⟩)
    | _, _ => none
  | _, _, _ => none
def lNext (st : ES) : AV → Option AV
  | .p i 0 => match st.h.get i with
    | some (.iter m) => match st.h.get m with
      | some (.map []) => some (.c (.tuple #[.bool false]))
      | _ => none
    | _ => none
  | _ => none
def lLen (st : ES) (t : TypeId) : AV → Option AV
  | .m i => match E.P.underlying t, st.h.get i with
    | some (.map _ _), some (.map es) => some (.c (goInt es.length))
    | _, _ => none
  | _ => none
def lBuiltin (st : ES) (b : Builtin) (xs : List AV) (ts : List TypeId) : Option AV := match b, xs, ts with
  | .len, [x], [t] => lLen E st t x
  | _, _, _ => none
def evLoad (st : ES) (ρ : Operand → AV) : Op → Option AV
  | .load t x => ldA E st t (ρ x)
  | .lookup t x ix ok => lLookup E st t (ρ x) (ρ ix) ok
  | .convert s d x => lConv E st s d (ρ x)
  | .next x b => bif b then none else lNext st (ρ x)
  | .call c => match c.callee with
    | .builtin b => lBuiltin E st b (c.args.toList.map ρ) c.argTypes.toList
    | _ => none
  | _ => none
/-- A new block under the name id, and its value. -/
def nMap (id : Nat) (t : TypeId) : AV → Option (AV × AO)
  | .c (.int _ _) => match E.P.underlying t with
    | some (.map _ _) => some (.m id, .map [])
    | _ => none
  | _ => none
def nSlice (id : Nat) (t : TypeId) (x y : AV) : Option (AV × AO) := match E.P.underlying t, natA x, natA y with
  | some (.slice e), some l, some c => match E.P.info? e with
    | some i => match i.zero with
      | some z => bif Nat.ble l c && (Nat.ble (c * i.bytes) 1000000000 && (Nat.ble c 1000000 && Nat.beq z.cells.toList.length i.size)) then some (.s id 0 l false c, .cells (zerosA (z.cells.toList.map .c) c) e false) else none
      | none => none
    | none => none
  | _, _, _ => none
def nRow (id : Nat) (ρ : Operand → AV) (t : TypeId) (n : Nat) (parts : List (Nat × Operand)) : Option (AV × AO) := match E.P.underlying t with
  | some (.slice e) => match E.P.info? e with
    | some i => match i.zero with
      | some z => bif Nat.ble (n * i.size) 1000000 && Nat.beq z.cells.toList.length i.size then
          (fillA (fun k => some (k * i.size, i.size)) ρ parts (zerosA (z.cells.toList.map .c) n)).map fun l => (.s id 0 n false n, .cells l e false)
        else none
      | none => none
    | none => none
  | _ => none
def evNew (ρ : Operand → AV) (id : Nat) : Op → Option (AV × AO)
  | .alloc e => (zeroV E e).map fun z => (.p id 0, .cells (z.cells.toList.map .c) e false)
  | .box e x => some (.p id 0, .cells (ρ x).cells e false)
  | .makeMap t r => match r with
    | none => some (.m id, .map [])
    | some x => nMap E id t (ρ x)
  | .makeSlice t x y => nSlice E id t (ρ x) (ρ y)
  | .buildSlice t n parts => nRow E id ρ t n parts.toList
  | _ => none
def newGrown (st : ES) (e : TypeId) (l : List AV) (n : Nat) : AV × ES := (.s st.x 0 n true 0, ⟨st.h.put st.x (some (.cells l e true)), st.x + 1⟩)
/-- What is appended: how many, which cells. -/
def moreA (st : ES) (z : Nat) : AV → Option (Nat × List AV)
  | .s i o n _ _ => (rd st i o (n * z)).map fun l => (n, l)
  | .z _ => some (0, [])
  | .y .. => some (0, [])
  | .c (.slice none 0 _) => some (0, [])
  | .c (.string b) => some (b.data.toList.length, b.data.toList.map fun x => .c (.int .u8 x.toNat))
  | _ => none
def appendA (st : ES) (e : TypeId) (z : Nat) (s : AV) (k : Nat) (l : List AV) : Option (AV × ES) :=
  match k, s with
  | 0, .s i o n r c => bif r || Nat.ble n c then some (.s i o n r c, st) else none
  | 0, .z i => some (.z i, st)
  | 0, .y i o e' c l => some (.y i o e' c l, st)
  | 0, .c (.slice none 0 0) => some (.c (.slice none 0 0), st)
  | _ + 1, .c (.slice none 0 0) => some (newGrown st e l k)
  | _ + 1, .s i o n false c =>
    bif Nat.ble (n + k) c then (wr st i (o + n * z) l).map fun st' => (.s i o (n + k) false c, st')
    else (rd st i o (n * z)).map fun l0 => newGrown st e (l0 ++ l) (n + k)
  | _ + 1, .s i o n true c => bif Nat.beq o (c * z) then
      match st.h.get i with
      | some (.cells l0 e' true) => bif Nat.beq e' e then
          (bif Nat.ble (o + (n + k) * z) l0.length then (wr st i (o + n * z) l).map fun st' => (.s i o (n + k) true c, st')
          else bif Nat.beq c 0 && (Nat.beq (n * z) l0.length && l.all AV.flat) then some (newGrown ⟨st.h.put i none, st.x⟩ e (l0 ++ l) (n + k)) else none)
        else none
      | _ => none
    else none
  | _, _ => none
def hStore (st : ES) (t : TypeId) (a x : AV) : Option (AV × ES) := match addrA E a, szOf E t with
  | some (i, o), some n => bif Nat.beq x.cells.length n then (wr st i o x.cells).map fun st' => (.c undef, st') else none
  | _, _ => none
def hUpdate (st : ES) (t : TypeId) (m k v : AV) : Option (AV × ES) := match E.P.underlying t, m, k with
  | some (.map kt _), .m i, .c key => match E.P.underlying kt, valS E.P (Instr.checkKey false 10000 kt key), st.h.get i with
    | some kd, some _, some (.map es) => match findA kd key es 0 with
      | none => none
      | some none => some (.c undef, ⟨st.h.put i (some (.map (es ++ [(key, v)]))), st.x⟩)
      | some (some (j, _)) => match es[j]? with
        | some (old, _) => bif Instr.sameBits 10000 old key then some (.c undef, ⟨st.h.put i (some (.map (es.set j (key, v)))), st.x⟩) else none
        | none => none
    | _, _, _ => none
  | _, _, _ => none
def hRange (st : ES) (t : TypeId) (x : AV) : Option (AV × ES) := match E.P.underlying t, x with
  | some (.map _ _), .m i => match st.h.get i with
    | some (.map _) => some (.p st.x 0, ⟨st.h.put st.x (some (.iter i)), st.x + 1⟩)
    | _ => none
  | _, _ => none
def hDelete (st : ES) (t : TypeId) (m k : AV) : Option (AV × ES) := match E.P.underlying t, m, k with
  | some (.map kt _), .m i, .c key => match E.P.underlying kt, valS E.P (Instr.checkKey true 10000 kt key), valS E.P (Instr.checkKey false 10000 kt key), st.h.get i with
    | some kd, some _, some _, some (.map es) => match findA kd key es 0 with
      | none => none
      | some none => some (.c undef, ⟨st.h.put i (some (.map es)), st.x⟩)
      | some (some (j, _)) => some (.c undef, ⟨st.h.put i (some (.map (es.eraseIdx j))), st.x⟩)
    | _, _, _, _ => none
  | _, _, _ => none
def lenA : AV → Nat
  | .s _ _ n _ _ => n
  | _ => 0
def hAppend (st : ES) (t u : TypeId) (s x : AV) : Option (AV × ES) := match E.P.underlying t, E.P.underlying u with
  | some (.slice e), some d => match E.P.info? e with
    | some i => match i.zero with
      | some z =>
        bif Nat.beq z.cells.toList.length i.size && (Nat.ble 1 i.size && Nat.ble i.bytes 10000) then
          match d with
          | .int _ => match natA x with
            | some k => bif Nat.ble (lenA s + k) 1000000 then appendA st e i.size s k (zerosA (z.cells.toList.map .c) k) else none
            | none => none
          | _ => match moreA st i.size x with
            | some (k, l) => bif Nat.ble (lenA s + k) 1000000 && Nat.beq l.length (k * i.size) then appendA st e i.size s k l else none
            | none => none
        else none
      | none => none
    | none => none
  | _, _ => none
def hCopy (st : ES) (t : TypeId) (d s : AV) : Option (AV × ES) := match E.P.underlying t, d with
  | some (.slice e), .s i o n _ _ => match szOf E e with
    | some z => match s with
      | .s j p m _ _ => match rd st j p (Nat.min m n * z) with
        | some l => (wr st i o l).map fun st' => (.c (goInt (Nat.min m n)), st')
        | none => none
      | .c (.slice none 0 _) => some (.c (goInt 0), st)
      | .z _ => some (.c (goInt 0), st)
      | .y .. => some (.c (goInt 0), st)
      | _ => none
    | none => none
  | _, _ => none
def hClear (st : ES) (t : TypeId) (x : AV) : Option (AV × ES) := match E.P.underlying t, x with
  | some (.map _ _), .m i => match st.h.get i with
    | some (.map _) => some (.c undef, ⟨st.h.put i (some (.map [])), st.x⟩)
    | _ => none
  | some (.slice e), .s i o n _ _ => bif Nat.beq n 0 then some (.c undef, st) else match zeroV E e with
    | some z => (wr st i o (zerosA (z.cells.toList.map .c) n)).map fun st' => (.c undef, st')
    | none => none
  | some (.slice _), .c (.slice none _ _) => some (.c undef, st)
  | some (.slice _), .z _ => some (.c undef, st)
  | some (.slice _), .y .. => some (.c undef, st)
  | _, _ => none
def hBuiltin (st : ES) (b : Builtin) (xs : List AV) (ts : List TypeId) : Option (AV × ES) := match b, xs, ts with
  | .append, [s, x], [t, u] => hAppend E st t u s x
  | .copy, [d, s], t :: _ => hCopy E st t d s
  | .clear, [x], [t] => hClear E st t x
  | .delete, [m, k], t :: _ => hDelete E st t m k
  | _, _, _ => none
def evHeavy (st : ES) (ρ : Operand → AV) : Op → Option (AV × ES)
  | .store t a x => hStore E st t (ρ a) (ρ x)
  | .mapUpdate t m k v => hUpdate E st t (ρ m) (ρ k) (ρ v)
  | .insert t m k v => hUpdate E st t (ρ m) (ρ k) (ρ v)
  | .range t x => hRange E st t (ρ x)
  | .call c => match c.callee with
    | .builtin b => hBuiltin E st b (c.args.toList.map ρ) c.argTypes.toList
    | _ => none
  | _ => none
/-- An operation that calls nothing. -/
def evOp (ρ : Operand → AV) (ty : TypeId) (st : ES) (op : Op) : Option (AV × ES) :=
  match evPure E ρ ty op with
  | some v => some (v, st)
  | none => match evLoad E st ρ op with
    | some v => some (v, st)
    | none => bif Nat.blt st.x 1000000000 then (match evNew E ρ st.x op with
      | some (v, ob) => some (v, ⟨st.h.put st.x (some ob), st.x + 1⟩)
      | none => evHeavy E st ρ op) else none
/-- Whom a call calls, with what. -/
def funcA (f : AV) (args : List AV) : Option (Nat × List AV) := match f with
  | .f k first caps => some (k, first ++ (args ++ caps))
  | .c (.func (.func k) first caps) => some (k, first.toList.map .c ++ (args ++ caps.toList.map .c))
  | _ => none
def calledA (ρ : Operand → AV) : Op → Option (Nat × List AV)
  | .call c => match c.callee with
    | .value f => funcA (ρ f) (c.args.toList.map ρ)
    | _ => none
  | _ => none
def putA (n : Nat) (tm : Tr AV) (dst : Option Tmp) (v : AV) : Option (Tr AV) := match dst with
  | none => some tm
  | some d => bif Nat.blt d n then some (tm.put d (some v)) else none
def yieldA (ops : Array Oper) (tm : Tr AV) (j : Nat) : Option Bool := match (ops[j]?).bind (·.dst) with
  | none => none
  | some t => match tm.get t with
    | some (.c (.bool b)) => some b
    | _ => none
inductive AX where
  | normal
  | exit (id : Nat)
  | goto (l : Nat)
  | ret
def opsA (exec : (Operand → AV) → TypeId → ES → Op → Option (AV × ES)) (ops : Array Oper) (n : Nat) : List Oper → Tr AV → ES → Option (Tr AV × ES)
  | [], tm, st => some (tm, st)
  | o :: rest, tm, st =>
    bif Region.wanted o (yieldA ops tm) then match exec (aev tm) o.type st o.op with
      | none => none
      | some (v, st') => match putA n tm o.dst v with
        | none => none
        | some tm' => opsA exec ops n rest tm' st'
    else match putA n tm o.dst (.c undef) with
      | none => none
      | some tm' => opsA exec ops n rest tm' st
def initA : List AV → Nat → Tr AV → Tr AV
  | [], _, tm => tm
  | v :: l, k, tm => initA l (k + 1) (tm.put k (some v))
def resA (st : ES) (tm : Tr AV) : List ResultVar → Option (List AV)
  | [] => some []
  | .tmp t :: rest => (resA st tm rest).map (aev tm (.tmp t) :: ·)
  | .cell a t :: rest => match ldA E st t (aev tm (.tmp a)), resA st tm rest with
    | some v, some r => some (v :: r)
    | _, _ => none
def resultA (fn : Func) (st : ES) (tm : Tr AV) : Option AV := match resA E st tm fn.results.toList with
  | none => none
  | some [v] => some v
  | some l => some (.t l)
def enterA (fn : Func) (run : Nat → Code → Tr AV → ES → Option (AX × Tr AV × ES)) (args : List AV) (st : ES) : Option (AV × ES) := match fn.body with
  | none => none
  | some c => bif Nat.ble args.length fn.ntmps && Nat.ble fn.ntmps 1000000 then match run fn.ntmps c (initA args 0 .e) st with
      | some (.normal, tm, st') => (resultA E fn st' tm).map fun v => (v, st')
      | some (.ret, tm, st') => (resultA E fn st' tm).map fun v => (v, st')
      | _ => none
    else none
def callA (run : Nat → Code → Tr AV → ES → Option (AX × Tr AV × ES)) (f : Nat) (args : List AV) (st : ES) : Option (AV × ES) := match E.ov f args st with
  | some r => r
  | none => match E.P.funcs[f]? with
    | none => none
    | some fn => enterA E fn run args st
def execA (call : Nat → List AV → ES → Option (AV × ES)) (ρ : Operand → AV) (ty : TypeId) (st : ES) (op : Op) : Option (AV × ES) :=
  match calledA ρ op with
  | some (f, args) => call f args st
  | none => evOp E ρ ty st op
/-! ### Regions that draw their order -/
def eqvV : Value → Value → Bool
  | .bool a, .bool b => a == b
  | .int .i64 a, .int .i64 b => a == b
  | .int .u64 a, .int .u64 b => a == b
  | .slice none a c, .slice none b d => Nat.beq a b && Nat.beq c d
  | .pointer none, .pointer none => true
  | .map none, .map none => true
  | .string a, .string b => a.data.toList == b.data.toList
  | _, _ => false
mutual
def eqvA : AV → AV → Bool
  | .c a, .c b => eqvV a b
  | .p i o, .p j q => Nat.beq i j && Nat.beq o q
  | .s i o n r c, .s j q m t d => Nat.beq i j && (Nat.beq o q && (Nat.beq n m && ((r == t) && Nat.beq c d)))
  | .z i, .z j => Nat.beq i j
  | .m i, .m j => Nat.beq i j
  | .g l, .g k => eqvL l k
  | _, _ => false
def eqvL : List AV → List AV → Bool
  | [], [] => true
  | x :: l, y :: k => eqvA x y && eqvL l k
  | _, _ => false
end
def sameO (a : Option AV) (v : AV) : Bool := match a with
  | some u => eqvA u v
  | none => false
def ancB (anc : Array Nat) (i j : Nat) : Bool := (anc.getD i 0).testBit j
/-- The operations wait for each other as told; those that don't stand apart. -/
def staticB (ops : Array Oper) (anc : Array Nat) : Bool :=
  ops.toList.zipIdx.all fun (o, i) =>
    (o.after.toList.all fun e => !Region.binds .any e || (Nat.blt e.on i && ancB anc i e.on)) &&
    ((List.range ops.size).all fun j => !ancB anc i j || (Nat.blt j i && o.after.toList.any fun e => Region.binds .any e && (Nat.beq e.on j || ancB anc e.on j))) &&
    (ops.toList.zipIdx.all fun (q, j) => !Nat.blt j i || ((ancB anc i j || q.apart ops o) && (o.dst.isNone || o.dst != q.dst)))
/-- The new blocks of a region that mask m names. -/
def addN (x0 : Nat) (m : Nat → Bool) (T : ES) : List (Nat × AO) → ES
  | [] => T
  | (j, ob) :: r => let T' := addN x0 m T r
    bif m j then ⟨T'.h.put (x0 + j) (some ob), T'.x⟩ else T'
def drawA (call : Nat → List AV → ES → Option (AV × ES)) (ops : Array Oper) (n x0 : Nat) (anc : Array Nat) : List Oper → Nat → Tr AV → ES → List (Nat × AO) → List (Nat × Tr AV × Op × AV) → List (Nat × ES) → Option (Tr AV × ES)
  | [], _, tm, T, nw, _, _ => some (tm, addN x0 (fun _ => true) T nw)
  | o :: rest, i, tm, T, nw, ld, hs =>
    bif Region.wanted o (yieldA ops tm) then
      match evPure E (aev tm) o.type o.op with
      | some v => match putA n tm o.dst v with
        | none => none
        | some tm' => drawA call ops n x0 anc rest (i + 1) tm' T nw ld hs
      | none => match evLoad E (addN x0 (ancB anc i) T nw) (aev tm) o.op with
        | some v => bif hs.all fun (j, Tb) => ancB anc i j || sameO (evLoad E Tb (aev tm) o.op) v then match putA n tm o.dst v with
            | none => none
            | some tm' => drawA call ops n x0 anc rest (i + 1) tm' T nw ((i, tm, o.op, v) :: ld) hs
          else none
        | none => match evNew E (aev tm) (x0 + i) o.op with
          | some (v, ob) => match putA n tm o.dst v with
            | none => none
            | some tm' => drawA call ops n x0 anc rest (i + 1) tm' T ((i, ob) :: nw) ld hs
          | none => match execA E call (aev tm) o.type (addN x0 (ancB anc i) T nw) o.op with
            | none => none
            | some (v, T') => bif (hs.all fun (j, _) => ancB anc i j) && (ld.all fun (k, tk, op, u) => ancB anc i k || sameO (evLoad E T' (aev tk) op) u) then match putA n tm o.dst v with
                | none => none
                | some tm' => drawA call ops n x0 anc rest (i + 1) tm' T' (nw.filter fun (j, _) => !ancB anc i j) ld ((i, T) :: hs)
              else none
    else match putA n tm o.dst (.c undef) with
      | none => none
      | some tm' => drawA call ops n x0 anc rest (i + 1) tm' T nw ld hs
def regionA (call : Nat → List AV → ES → Option (AV × ES)) (ops : Array Oper) (n : Nat) (tm : Tr AV) (st : ES) : Option (Tr AV × ES) :=
  bif staticB ops (Region.before ops) && Nat.ble (st.x + ops.size) 1000000000 then drawA E call ops n st.x (Region.before ops) ops.toList 0 tm ⟨st.h, st.x + ops.size⟩ [] [] [] else none
/-- Code, or (sc) code within a scope. -/
def ev : Nat → Nat → Option Code → Code → Tr AV → ES → Option (AX × Tr AV × ES)
  | 0, _, _, _, _, _ => none
  | k + 1, n, some s, c, tm, st => match ev k n none c tm st with
    | some (.goto l, tm', st') => match findLabel s l with
      | some rest => ev k n (some s) rest tm' st'
      | none => some (.goto l, tm', st')
    | r => r
  | k + 1, n, none, c, tm, st => match c with
    | .skip => some (.normal, tm, st)
    | .label _ => some (.normal, tm, st)
    | .ret => some (.ret, tm, st)
    | .exit id => some (.exit id, tm, st)
    | .goto l => some (.goto l, tm, st)
    | .scope a => ev k n (some a) a tm st
    | .seq a b => match ev k n none a tm st with
      | some (.normal, tm', st') => ev k n none b tm' st'
      | r => r
    | .cond x a b => match aev tm x with
      | .c (.bool true) => ev k n none a tm st
      | .c (.bool false) => ev k n none b tm st
      | _ => none
    | .block id a => match ev k n none a tm st with
      | some (.exit j, tm', st') => some (bif Nat.beq j id then .normal else .exit j, tm', st')
      | r => r
    | .loop a => match ev k n none a tm st with
      | some (.normal, tm', st') => ev k n none (.loop a) tm' st'
      | r => r
    | .region _ ops d => match (match d with
        | true => regionA E (callA E fun m c => ev k m none c) ops n tm st
        | false => opsA (execA E (callA E fun m c => ev k m none c)) ops n ops.toList tm st) with
      | none => none
      | some (tm', st') => some (.normal, tm', st')
    | _ => none
end
end
end Go.Proofs.YtgpgmmkkmoecmaaGreatDoor
