/- Texts joined: Pa Ba Wa Pb Wb Wc Wd We Wf. -/
import Derived.Below
import Derived.Deep.Draws
import Derived.Maps.AppendAt
import Derived.OwnWalk
import Derived.WalkKit
import Derived.Laws.MakeOwn
import Derived.Laws.OwnMore
import Derived.KernelRfl
import Derived.Test.YtoahaigfjfeopaaGreatDoorProg
import Derived.ProofKit
import Derived.Deep.QuietTactic
import Derived.BigQuiet
import Derived.WalkSpells
import Derived.Outline
import Derived.Lib.Hide
/- The plain functions that the program computes, part 1: rows of numbers. No program, no memory. -/
namespace Go.Proofs.YtoahaigfjfeopaaGreatDoor

/-- An element by its place. -/
def nth {α : Type} (z : α) (xs : List α) (k : Nat) : α := xs.getD k z
theorem nth_get {α : Type} (z : α) (xs : List α) (k : Nat) (h : k < xs.length) : xs[k]? = some (nth z xs k) := by simp [nth, List.getD_eq_getElem?_getD, List.getElem?_eq_getElem h]
/-- Two numbers held against each other. -/
def cmp1 (a b : Int) : Int := if a < b then -1 else if b < a then 1 else 0
/-- Two rows held against each other. -/
def cmpL : List Int → List Int → Int
  | [], [] => 0
  | [], _ :: _ => -1
  | _ :: _, [] => 1
  | a :: l, b :: m => if a < b then -1 else if b < a then 1 else cmpL l m
/-- Numbers rise. -/
def risingB : List Int → Bool
  | a :: b :: r => decide (a < b) && risingB (b :: r)
  | _ => true
def smallB (n most : Int) : Bool := decide (-most ≤ n) && decide (n ≤ most)
/-- Where a number stands, from a place on; -1: nowhere. -/
def indexFrom (x : Int) : Nat → List Int → Int
  | _, [] => -1
  | i, a :: r => if a = x then i else indexFrom x (i + 1) r

theorem drop_cons {α : Type} (xs : List α) (z : α) (k : Nat) (h : k < xs.length) : xs.drop k = nth z xs k :: xs.drop (k + 1) := by
  rw [List.drop_eq_getElem_cons h]
  simp [nth, List.getD_eq_getElem?_getD, List.getElem?_eq_getElem h]
theorem indexFrom_ge (x : Int) : ∀ (l : List Int) (i : Nat), 0 ≤ indexFrom x i l ↔ x ∈ l
  | [], i => by simp [indexFrom]
  | a :: r, i => by
    unfold indexFrom
    split
    · rename_i h; simp [h]
    · rename_i h
      rw [indexFrom_ge x r (i + 1)]
      simp [Ne.symm h]
theorem indexFrom_le (x : Int) : ∀ (l : List Int) (i : Nat), indexFrom x i l ≤ i + l.length ∧ -1 ≤ indexFrom x i l
  | [], i => by simp [indexFrom]
  | a :: r, i => by
    unfold indexFrom
    split
    · simp; omega
    · have := indexFrom_le x r (i + 1)
      simp only [List.length_cons]
      omega
theorem risingB_drop (xs : List Int) (k : Nat) (h : k + 1 < xs.length) : risingB (xs.drop k) = (decide (nth 0 xs k < nth 0 xs (k + 1)) && risingB (xs.drop (k + 1))) := by
  rw [drop_cons xs 0 k (by omega), drop_cons xs 0 (k + 1) h, risingB]
theorem risingB_last (xs : List Int) (k : Nat) (h : xs.length ≤ k + 1) : risingB (xs.drop k) = true := by
  rcases Nat.lt_or_ge k xs.length with h1 | h1
  · rw [drop_cons xs 0 k h1, List.drop_eq_nil_of_le (by omega)]; rfl
  · rw [List.drop_eq_nil_of_le h1]; rfl
end Go.Proofs.YtoahaigfjfeopaaGreatDoor

/- What memory holds: readable data, rows of the call's own, and how they outlive later writes. Plain lemmas over the model; no program. -/
namespace Go.Proofs.YtoahaigfjfeopaaGreatDoor
open Go.RowKit

theorem ret_int {k : IntKind} {a b : Int} (h : a = b) : Ending.returned (.int k a) = .returned (.int k b) := by rw [h]
theorem ret_bool {a b : Bool} (h : a = b) : Ending.returned (.bool a) = .returned (.bool b) := by rw [h]
theorem ret_str {a b : ByteArray} (h : a = b) : Ending.returned (.string a) = .returned (.string b) := by rw [h]
/-- A kind of data: how many cells a value has, and what they say; 'ok': the blocks in which the value's inner rows may lie. -/
structure Kd (α : Type) where
  sz : Nat
  K : World → (Nat → Prop) → α → List Value → Prop
  len : ∀ {w ok x cs}, K w ok x cs → cs.length = sz
  one : ∀ {w ok x cs}, K w ok x cs → ∀ u ∈ cs, u.oneCell' = true
  mono : ∀ {w} {ok ok' : Nat → Prop} {x cs}, (∀ k, ok k → ok' k) → K w ok x cs → K w ok' x cs
  move : ∀ {w w1 : World} {ok x cs}, (∀ k, ok k → k < w.heap.size → w1.heap[k]? = w.heap[k]?) → K w ok x cs → K w1 (fun k => ok k ∧ k < w.heap.size) x cs

/-- The elements of a row that can be read. -/
def Elems {α : Type} (d : Kd α) (w : World) (ok : Nat → Prop) (A : Option Addr) (xs : List α) : Prop :=
  ∀ j x, xs[j]? = some x → ∃ b o cs, A = some ⟨b, o, none⟩ ∧ ok b ∧ d.K w ok x cs ∧ ∀ i u, cs[i]? = some u → w.cell? ⟨b, o + (j * d.sz + i), none⟩ = some u

/-- A slice that can be read. -/
def Sl {α : Type} (d : Kd α) (w : World) (ok : Nat → Prop) (v : Value) (xs : List α) : Prop :=
  ∃ A c, v = .slice A xs.length c ∧ xs.length ≤ c ∧ xs.length ≤ 140737488355328 ∧ Elems d w ok A xs

theorem Elems.mono {α : Type} {d : Kd α} {w : World} {ok ok' : Nat → Prop} {A : Option Addr} {xs : List α} (hk : ∀ k, ok k → ok' k) (h : Elems d w ok A xs) : Elems d w ok' A xs := by
  intro j x hx
  obtain ⟨b, o, cs, h1, h2, h3, h4⟩ := h j x hx
  exact ⟨b, o, cs, h1, hk b h2, d.mono hk h3, h4⟩
theorem lt_of_cell {w : World} {a : Addr} {u : Value} (h : w.cell? a = some u) : a.block < w.heap.size := World.block_lt_of_cell? w a h
theorem Elems.move {α : Type} {d : Kd α} {w w1 : World} {ok : Nat → Prop} {A : Option Addr} {xs : List α} (hs : 0 < d.sz) (hm : ∀ k, ok k → k < w.heap.size → w1.heap[k]? = w.heap[k]?) (h : Elems d w ok A xs) : Elems d w1 (fun k => ok k ∧ k < w.heap.size) A xs := by
  intro j x hx
  obtain ⟨b, o, cs, h1, h2, h3, h4⟩ := h j x hx
  have hl := d.len h3
  have hb : b < w.heap.size := lt_of_cell (h4 0 _ (List.getElem?_eq_getElem (show 0 < cs.length by omega)))
  refine ⟨b, o, cs, h1, ⟨h2, hb⟩, d.move hm h3, fun i u hu => ?_⟩
  exact (World.cell?_of_block (w := w) (hm b h2 hb)).trans (h4 i u hu)
theorem Sl.mono {α : Type} {d : Kd α} {w : World} {ok ok' : Nat → Prop} {v : Value} {xs : List α} (hk : ∀ k, ok k → ok' k) (h : Sl d w ok v xs) : Sl d w ok' v xs := by
  obtain ⟨A, c, h1, h2, h3, h4⟩ := h
  exact ⟨A, c, h1, h2, h3, h4.mono hk⟩
theorem Sl.move {α : Type} {d : Kd α} {w w1 : World} {ok : Nat → Prop} {v : Value} {xs : List α} (hs : 0 < d.sz) (hm : ∀ k, ok k → k < w.heap.size → w1.heap[k]? = w.heap[k]?) (h : Sl d w ok v xs) : Sl d w1 (fun k => ok k ∧ k < w.heap.size) v xs := by
  obtain ⟨A, c, h1, h2, h3, h4⟩ := h
  exact ⟨A, c, h1, h2, h3, h4.move hs hm⟩
theorem Sl.elems {α : Type} {d : Kd α} {w : World} {ok : Nat → Prop} {A : Option Addr} {n c : Nat} {xs : List α} (h : Sl d w ok (.slice A n c) xs) : Elems d w ok A xs := by
  obtain ⟨_, _, he, _, _, hA⟩ := h
  injection he with he1 _ _
  rw [he1]; exact hA
/-- The usual mover: all that was there stands. -/
theorem Sl.below {α : Type} {d : Kd α} {w w1 : World} {ok : Nat → Prop} {v : Value} {xs : List α} (hs : 0 < d.sz) (h : Sl d w ok v xs) (hb : Below w.heap.size w w1) : Sl d w1 ok v xs :=
  (h.move hs fun k _ hk => hb.block k hk).mono fun _ h => h.1
theorem Kd.below {α : Type} (d : Kd α) {w w1 : World} {ok : Nat → Prop} {x : α} {cs : List Value} (h : d.K w ok x cs) (hb : Below w.heap.size w w1) : d.K w1 ok x cs :=
  d.mono (fun _ h => h.1) (d.move (fun k _ hk => hb.block k hk) h)

/-! ### The kinds -/
namespace Kd
def scalar {α : Type} (enc : α → Value) (h1 : ∀ x, (enc x).oneCell' = true) : Kd α where
  sz := 1
  K := fun _ _ x cs => cs = [enc x]
  len := fun h => by rw [h]; rfl
  one := fun h u hu => by rw [h] at hu; rw [List.mem_singleton.1 hu]; exact h1 _
  mono := fun _ h => h
  move := fun _ h => h
def int (k : IntKind) : Kd Int := scalar (Value.int k) (fun _ => rfl)
def str : Kd ByteArray := scalar Value.string (fun _ => rfl)
def bool : Kd Bool := scalar Value.bool (fun _ => rfl)
def slice {α : Type} (d : Kd α) (hs : 0 < d.sz) : Kd (List α) where
  sz := 1
  K := fun w ok xs cs => ∃ v, cs = [v] ∧ Sl d w ok v xs
  len := fun ⟨_, h, _⟩ => by rw [h]; rfl
  one := fun ⟨_, h, A, c, h1, _⟩ u hu => by rw [h] at hu; rw [List.mem_singleton.1 hu, h1]; rfl
  mono := fun hk ⟨v, h, h1⟩ => ⟨v, h, h1.mono hk⟩
  move := fun hm ⟨v, h, h1⟩ => ⟨v, h, h1.move hs hm⟩
def pair {α β : Type} (a : Kd α) (b : Kd β) : Kd (α × β) where
  sz := a.sz + b.sz
  K := fun w ok x cs => ∃ c0 c1, cs = c0 ++ c1 ∧ a.K w ok x.1 c0 ∧ b.K w ok x.2 c1
  len := fun ⟨c0, c1, h, h0, h1⟩ => by rw [h, List.length_append, a.len h0, b.len h1]
  one := fun ⟨c0, c1, h, h0, h1⟩ u hu => by
    rw [h] at hu
    rcases List.mem_append.1 hu with hu | hu
    · exact a.one h0 u hu
    · exact b.one h1 u hu
  mono := fun hk ⟨c0, c1, h, h0, h1⟩ => ⟨c0, c1, h, a.mono hk h0, b.mono hk h1⟩
  move := fun hm ⟨c0, c1, h, h0, h1⟩ => ⟨c0, c1, h, a.move hm h0, b.move hm h1⟩
def iso {α β : Type} (d : Kd α) (f : β → α) : Kd β where
  sz := d.sz
  K := fun w ok x cs => d.K w ok (f x) cs
  len := d.len
  one := d.one
  mono := d.mono
  move := d.move
end Kd

/-! ### Elements that are read -/
theorem Sl.at_ {α : Type} {d : Kd α} {w : World} {ok : Nat → Prop} {A : Option Addr} {xs : List α} (h : Elems d w ok A xs) {j : Nat} {x : α} (hx : xs[j]? = some x) :
    ∃ b o cs, A = some ⟨b, o, none⟩ ∧ ok b ∧ d.K w ok x cs ∧ ∀ i u, cs[i]? = some u → w.cell? ⟨b, o + (j * d.sz + i), none⟩ = some u := h j x hx
/-- One cell an element. -/
theorem Elems.cell {α : Type} {enc : α → Value} {h1 : ∀ x, (enc x).oneCell' = true} {w : World} {ok : Nat → Prop} {A : Option Addr} {xs : List α} (h : Elems (Kd.scalar enc h1) w ok A xs) {j : Nat} {x : α} (hx : xs[j]? = some x) :
    ∃ b o, A = some ⟨b, o, none⟩ ∧ w.cell? ⟨b, o + j, none⟩ = some (enc x) := by
  obtain ⟨b, o, cs, hA, _, hk, hc⟩ := h j x hx
  refine ⟨b, o, hA, ?_⟩
  have hk' : cs = [enc x] := hk
  have := hc 0 (enc x) (by rw [hk']; rfl)
  simpa [Kd.scalar] using this
theorem Elems.num {k : IntKind} {w : World} {ok : Nat → Prop} {A : Option Addr} {xs : List Int} (h : Elems (Kd.int k) w ok A xs) {j : Nat} (hj : j < xs.length) :
    ∃ b o, A = some ⟨b, o, none⟩ ∧ w.cell? ⟨b, o + j, none⟩ = some (.int k (nth 0 xs j)) := by
  have := Elems.cell (enc := Value.int k) h (j := j) (x := nth 0 xs j) (nth_get 0 xs j hj)
  exact this
/-- A slice in each cell. -/
theorem Elems.row {α : Type} {d : Kd α} {hs : 0 < d.sz} {w : World} {ok : Nat → Prop} {A : Option Addr} {xs : List (List α)} (h : Elems (Kd.slice d hs) w ok A xs) {j : Nat} (hj : j < xs.length) :
    ∃ b o v, A = some ⟨b, o, none⟩ ∧ w.cell? ⟨b, o + j, none⟩ = some v ∧ Sl d w ok v (nth [] xs j) := by
  obtain ⟨b, o, cs, hA, _, ⟨v, hv, hk⟩, hc⟩ := h j (nth [] xs j) (nth_get [] xs j hj)
  refine ⟨b, o, v, hA, ?_, hk⟩
  have := hc 0 v (by rw [hv]; rfl)
  simpa [Kd.slice] using this

end Go.Proofs.YtoahaigfjfeopaaGreatDoor

/- What small functions on numbers and rows of numbers compute: tuple.Rising, Compare, slices.Index and Contains, inst.small. -/
namespace Go.Proofs.YtoahaigfjfeopaaGreatDoor
open Go.RowKit

theorem small_any (n m : Int) (w : World) (h3 : 0 ≤ m) (h4 : m ≤ 9223372036854775807) :
    Calls Tryz.prog 53 #[.int .i64 n, .int .i64 m] w fun e w' => e = .returned (.bool (smallB n m)) ∧ w = w' := by
  by_cases h : -m ≤ n
  · go_enter Tryz.func53, Tryz.ntmps53
    go_wp2
    go_ret
    exact ⟨by simp [smallB, h], rfl⟩
  · go_enter Tryz.func53, Tryz.ntmps53
    go_wp2
    go_ret
    exact ⟨by simp [smallB]; omega, rfl⟩
theorem small64_any (n m : Int) (w : World) (h3 : 0 ≤ m) (h4 : m ≤ 9223372036854775807) :
    Calls Tryz.prog 60 #[.int .i64 n, .int .i64 m] w fun e w' => e = .returned (.bool (smallB n m)) ∧ w = w' := by
  by_cases h : -m ≤ n
  · go_enter Tryz.func60, Tryz.ntmps60
    go_wp2
    go_ret
    exact ⟨by simp [smallB, h], rfl⟩
  · go_enter Tryz.func60, Tryz.ntmps60
    go_wp2
    go_ret
    exact ⟨by simp [smallB]; omega, rfl⟩
theorem cmp1_any (a b : Int) (w : World) :
    Calls Tryz.prog 118 #[.int .i64 a, .int .i64 b] w fun e w' => e = .returned (.int .i64 (cmp1 a b)) ∧ w = w' := by
  by_cases h : a < b
  · go_enter Tryz.func118, Tryz.ntmps118
    go_wp2
    go_ret
    exact ⟨by simp [cmp1, h], rfl⟩
  · by_cases h2 : b < a
    · go_enter Tryz.func118, Tryz.ntmps118
      go_wp2
      go_ret
      exact ⟨ret_int (by unfold cmp1; rw [if_neg (by omega), if_pos h2]), rfl⟩
    · go_enter Tryz.func118, Tryz.ntmps118
      go_wp2
      go_ret
      exact ⟨ret_int (by unfold cmp1; rw [if_neg (by omega), if_neg (by omega)]), rfl⟩

theorem compare_any (v1 v2 : Value) (xs ys : List Int) (ok : Nat → Prop) (w : World) (h1 : Sl (Kd.int .i64) w ok v1 xs) (h2 : Sl (Kd.int .i64) w ok v2 ys) :
    Calls Tryz.prog 111 #[v1, v2] w fun e w' => e = .returned (.int .i64 (cmpL xs ys)) ∧ w = w' := by
  obtain ⟨A, c, rfl, hc, hm, hA⟩ := h1
  obtain ⟨A', c', rfl, hc', hm', hA'⟩ := h2
  go_enter Tryz.func111, Tryz.ntmps111
  go_wp2
  go_loop [11] (fun i => ∃ k : Nat, i = .int .i64 k ∧ k ≤ xs.length ∧ k ≤ ys.length ∧ Hid (cmpL xs ys = cmpL (xs.drop k) (ys.drop k))) (fun i => xs.length - (intOf i).toNat)
  case atStart => exact ⟨0, rfl, by omega, by omega, Lib.hid rfl⟩
  case round =>
    obtain ⟨k, rfl, hk, hk', H⟩ := hrel
    by_cases hlt : k < xs.length
    · obtain ⟨b, o, rfl, hcell⟩ := hA.num hlt
      by_cases hlt' : k < ys.length
      · obtain ⟨b', o', rfl, hcell'⟩ := hA'.num hlt'
        clear hA hA'
        have H' : Hid (cmpL (xs.drop k) (ys.drop k) = if nth 0 xs k < nth 0 ys k then -1 else if nth 0 ys k < nth 0 xs k then 1 else cmpL (xs.drop (k + 1)) (ys.drop (k + 1))) := by
          rw [drop_cons xs 0 k hlt, drop_cons ys 0 k hlt', cmpL]; exact Lib.hid rfl
        by_cases h : nth 0 xs k < nth 0 ys k
        · have hc1 : cmp1 (nth 0 xs k) (nth 0 ys k) = -1 := by simp [cmp1, h]
          go_wp2_with (go_at_call 118; refine (cmp1_any _ _ _).mono ?_; rintro e w' ⟨rfl, rfl⟩)
          go_ret
          exact ⟨ret_int (by rw [H.out, H'.out, if_pos h]), rfl⟩
        · by_cases h2 : nth 0 ys k < nth 0 xs k
          · have hc1 : cmp1 (nth 0 xs k) (nth 0 ys k) = 1 := by simp [cmp1, h, h2]
            go_wp2_with (go_at_call 118; refine (cmp1_any _ _ _).mono ?_; rintro e w' ⟨rfl, rfl⟩)
            go_ret
            exact ⟨ret_int (by rw [H.out, H'.out, if_neg (by omega), if_pos h2]), rfl⟩
          · have hc1 : cmp1 (nth 0 xs k) (nth 0 ys k) = 0 := by simp [cmp1, h, h2]
            go_wp2_with (go_at_call 118; refine (cmp1_any _ _ _).mono ?_; rintro e w' ⟨rfl, rfl⟩)
            go_round
            case rel => exact ⟨k + 1, by go_num, by omega, by omega, Lib.hid (by rw [H.out, H'.out, if_neg (by omega), if_neg (by omega)])⟩
            case measure => simp [intOf]; omega
      · go_wp2
        go_ret
        refine ⟨ret_int ?_, rfl⟩
        rw [H.out, drop_cons xs 0 k hlt, List.drop_eq_nil_of_le (show ys.length ≤ k by omega)]; rfl
    · by_cases hlt' : k < ys.length
      · go_wp2
        go_ret
        refine ⟨ret_int ?_, rfl⟩
        rw [H.out, drop_cons ys 0 k hlt', List.drop_eq_nil_of_le (show xs.length ≤ k by omega)]; rfl
      · go_wp2
        go_ret
        refine ⟨ret_int ?_, rfl⟩
        rw [H.out, List.drop_eq_nil_of_le (show xs.length ≤ k by omega), List.drop_eq_nil_of_le (show ys.length ≤ k by omega)]; rfl

theorem tcompare_any (v1 v2 : Value) (xs ys : List Int) (ok : Nat → Prop) (w : World) (h1 : Sl (Kd.int .i64) w ok v1 xs) (h2 : Sl (Kd.int .i64) w ok v2 ys) :
    Calls Tryz.prog 89 #[v1, v2] w fun e w' => e = .returned (.int .i64 (cmpL xs ys)) ∧ w = w' := by
  go_enter Tryz.func89, Tryz.ntmps89
  go_wp2_with (go_at_call 111; refine (compare_any _ _ _ _ _ _ h1 h2).mono ?_; rintro e w' ⟨rfl, rfl⟩)
  go_ret
  exact ⟨rfl, rfl⟩

theorem index_any (v : Value) (xs : List Int) (x : Int) (ok : Nat → Prop) (w : World) (h1 : Sl (Kd.int .i64) w ok v xs) :
    Calls Tryz.prog 112 #[v, .int .i64 x] w fun e w' => e = .returned (.int .i64 (indexFrom x 0 xs)) ∧ w = w' := by
  obtain ⟨A, c, rfl, hc, hm, hA⟩ := h1
  go_enter Tryz.func112, Tryz.ntmps112
  go_wp2
  go_loop [8] (fun i => ∃ k : Nat, i = .int .i64 k ∧ k ≤ xs.length ∧ Hid (indexFrom x 0 xs = indexFrom x k (xs.drop k))) (fun i => xs.length - (intOf i).toNat)
  case atStart => exact ⟨0, rfl, by omega, Lib.hid rfl⟩
  case round =>
    obtain ⟨k, rfl, hk, H⟩ := hrel
    by_cases hlt : k < xs.length
    · obtain ⟨b, o, rfl, hcell⟩ := hA.num hlt
      have H' : Hid (indexFrom x k (xs.drop k) = if nth 0 xs k = x then (k : Int) else indexFrom x (k + 1) (xs.drop (k + 1))) := by
        rw [drop_cons xs 0 k hlt, indexFrom]; exact Lib.hid rfl
      clear hA
      by_cases h : nth 0 xs k = x
      · have hb : (x == nth 0 xs k) = true := by simp [h]
        have h' := Lib.hid h; clear h
        go_wp2
        go_ret
        exact ⟨ret_int (by rw [H.out, H'.out, if_pos h'.out]), rfl⟩
      · have hb : (x == nth 0 xs k) = false := by simp; exact fun e => h e.symm
        go_wp2
        go_round
        case rel => exact ⟨k + 1, by go_num, by omega, Lib.hid (by rw [H.out, H'.out, if_neg h])⟩
        case measure => simp [intOf]; omega
    · go_wp2
      go_ret
      refine ⟨ret_int ?_, rfl⟩
      rw [H.out, List.drop_eq_nil_of_le (by omega)]; rfl

theorem contains_any (v : Value) (xs : List Int) (x : Int) (ok : Nat → Prop) (w : World) (h1 : Sl (Kd.int .i64) w ok v xs) :
    Calls Tryz.prog 90 #[v, .int .i64 x] w fun e w' => e = .returned (.bool (decide (x ∈ xs))) ∧ w = w' := by
  have hb := indexFrom_ge x xs 0
  have hx : Hid (decide (x ∈ xs) = decide (0 ≤ indexFrom x 0 xs)) := Lib.hid (decide_eq_decide.2 hb.symm)
  clear hb
  go_enter Tryz.func90, Tryz.ntmps90
  go_wp2_with (go_at_call 112; refine (index_any _ _ _ _ _ h1).mono ?_; rintro e w' ⟨rfl, rfl⟩)
  go_ret
  exact ⟨ret_bool (by rw [hx.out]), rfl⟩

theorem rising_any (v : Value) (xs : List Int) (ok : Nat → Prop) (w : World) (h1 : Sl (Kd.int .i64) w ok v xs) :
    Calls Tryz.prog 52 #[v] w fun e w' => e = .returned (.bool (risingB xs)) ∧ ∃ n, w' = w.drewN n := by
  obtain ⟨A, c, rfl, hc, hm, hA⟩ := h1
  go_enter Tryz.func52, Tryz.ntmps52
  go_wp2
  go_loopw [3] (fun i wr => ∃ k : Nat, i = .int .i64 (k + 1) ∧ Hid (risingB xs = risingB (xs.drop k)) ∧ (k ≤ xs.length) ∧ ∃ n, wr = w.drewN n) (fun i _ => xs.length - (intOf i).toNat)
  case atStart => exact ⟨0, rfl, Lib.hid rfl, by omega, 0, rfl⟩
  case round =>
    obtain ⟨k, rfl, H, hk, nd, rfl⟩ := hrel
    by_cases hlt : k + 1 < xs.length
    · obtain ⟨b, o, rfl, c1⟩ := hA.num (j := k) (by omega)
      obtain ⟨b', o', he, c2⟩ := hA.num hlt
      injection he with he
      injection he with he1 he2
      subst he1 he2
      have H' := Lib.hid (risingB_drop xs k hlt)
      have h1 : IntKind.i64.wrap ((k:Int) + 1 - 1) = k := by rw [show (k:Int) + 1 - 1 = k from by omega]; exact IntWalk.i64_in _ (by omega)
      have h2 : ((k:Int) + 1).toNat = k + 1 := by omega
      clear hA
      by_cases h : nth 0 xs (k + 1) ≤ nth 0 xs k
      · go_wp2
        go_quiet (fail)
        go_wp2
        go_ret
        exact ⟨ret_bool (by rw [H.out, H'.out]; simp; omega), by first | exact ⟨_, rfl⟩ | exact ⟨_, World.drewN_drewN ..⟩⟩
      · go_wp2
        go_quiet (fail)
        go_wp2
        go_roundw
        case rel => exact ⟨k + 1, by go_num, Lib.hid (by rw [H.out, H'.out]; simp; omega), by omega, _, rfl⟩
        case measure => simp [intOf]; omega
    · go_wp2
      go_ret
      exact ⟨ret_bool (by rw [H.out, risingB_last xs k (by omega)]), _, rfl⟩
end Go.Proofs.YtoahaigfjfeopaaGreatDoor

/- The plain functions that the program computes, part 2: which instances are right. No program, no memory. -/
namespace Go.Proofs.YtoahaigfjfeopaaGreatDoor

structure Con where
  kind : Int
  scope : List Int
  rows : List (List Int)
  args : List Int
  deriving DecidableEq, Inhabited
structure Sft where
  scope : List Int
  rows : List (List Int)
  costs : List Int
  dflt : Int
  deriving DecidableEq, Inhabited
structure Ins where
  doms : List (List Int)
  hard : List Con
  soft : List Sft
  deriving DecidableEq, Inhabited

def domainB (d : List Int) : Bool :=
  decide (0 < d.length) && decide (d.length ≤ 16) && risingB d && smallB (nth 0 d 0) 1000000 && smallB (nth 0 d (d.length - 1)) 1000000
def scopeB (n : Nat) (l : List Int) : Bool :=
  decide (0 < l.length) && decide (l.length ≤ 6) && risingB l && decide (0 ≤ nth 0 l 0) && decide (nth 0 l (l.length - 1) < n)
/-- A row's numbers, each held against its variable's domain. -/
def inDoms (doms : List (List Int)) : List Int → List Int → Bool
  | s :: ss, n :: ns => decide (n ∈ nth [] doms s.toNat) && inDoms doms ss ns
  | _, _ => true
/-- Rows over a scope, behind the one ahead. -/
def rowsB (doms : List (List Int)) (scope : List Int) : Option (List Int) → List (List Int) → Bool
  | _, [] => true
  | ahead, t :: r => decide (t.length = scope.length) && (match ahead with | none => true | some p => decide (cmpL p t < 0)) && inDoms doms scope t && rowsB doms scope (some t) r
def argsB (n : Nat) : Nat → List Int → Bool
  | _, [] => true
  | i, a :: r => !(decide (i < n) && decide (a = 0)) && smallB a 1000000 && argsB n (i + 1) r
def linearB (c : Con) : Bool :=
  decide (c.args.length = c.scope.length + 2) && decide (0 ≤ nth 0 c.args c.scope.length) && decide (nth 0 c.args c.scope.length ≤ 2) && argsB c.scope.length 0 c.args
def hardB (x : Ins) (c : Con) : Bool :=
  scopeB x.doms.length c.scope && decide (1 ≤ c.kind) && decide (c.kind ≤ 6) && !(decide (2 < c.kind) && decide (0 < c.rows.length)) &&
    if c.kind = 6 then linearB c else decide (c.args.length = 0) && rowsB x.doms c.scope none c.rows
def wideAny (l : List Int) : Bool := l.any fun n => !smallB n 1000000000000
def softB (x : Ins) (s : Sft) : Bool :=
  scopeB x.doms.length s.scope && decide (s.costs.length = s.rows.length) && smallB s.dflt 1000000000000 && !wideAny s.costs && rowsB x.doms s.scope none s.rows
def rightB (x : Ins) : Bool :=
  decide (x.doms.length ≤ 40) && decide (x.hard.length ≤ 200) && decide (x.soft.length ≤ 200) && x.doms.all domainB && x.hard.all (hardB x) && x.soft.all (softB x)
end Go.Proofs.YtoahaigfjfeopaaGreatDoor

/- What the functions that tell right instances compute. -/
namespace Go.Proofs.YtoahaigfjfeopaaGreatDoor
open Go.RowKit

theorem bcell {W w1 : World} (hb : Below W.heap.size W w1) : (∀ b o, b < W.heap.size → w1.cell? ⟨b, o, none⟩ = W.cell? ⟨b, o, none⟩) :=
  fun b o h => hb.cell (p := ⟨b, o, none⟩) h
theorem below_drewN {B : Nat} {a w : World} (h : Below B a w) (n : Nat) : Below B a (w.drewN n) := ⟨h.os, h.tape, h.output, h.size, h.block⟩

theorem below_next {w w1 w2 : World} (h : Below w.heap.size w w1) (k : Below w1.heap.size w1 w2) : Below w.heap.size w w2 := h.trans (k.mono h.size)
theorem cell_at {w : World} {g : Nat} {cs : Array Value} {t : TypeId} {fr : Nat × Nat} (hg : w.heap[g]? = some (.cells cs t fr)) {i : Nat} {u : Value} (hu : cs[i]? = some u) : w.cell? ⟨g, i, none⟩ = some u := by
  simp [World.cell?, hg, hu]
theorem cell_kept {w w1 : World} (hb : Below w.heap.size w w1) {a : Addr} {u : Value} (h : w.cell? a = some u) : w1.cell? a = some u := (hb.cell (lt_of_cell h)).trans h
theorem block_kept {w w1 : World} (hb : Below w.heap.size w w1) {g : Nat} {o : Obj} (h : w.heap[g]? = some o) : w1.heap[g]? = some o := (hb.block g (Array.getElem?_eq_some_iff.1 h).1).trans h
theorem quiet_add_left {P : Program} {f : FuncId} {args : Array Value} {w : World} {a n : Nat} {v : Value}
    (h : Calls P f args (w.drewN (a + n)) fun e w' => e = .returned v ∧ w.drewN (a + n) = w') :
    Calls P f args (w.drewN (a + n)) fun e w'' => e = .returned v ∧ ∃ m, w'' = w.drewN (a + m) :=
  h.mono fun _ _ ⟨he, hm⟩ => ⟨he, n, hm.symm⟩
theorem quiet_left {P : Program} {f : FuncId} {args : Array Value} {w : World} {n : Nat} {v : Value}
    (h : Calls P f args (w.drewN n) fun e w' => e = .returned v ∧ w.drewN n = w') : Calls P f args (w.drewN n) fun e w'' => e = .returned v ∧ ∃ m, w'' = w.drewN m :=
  h.mono fun _ _ ⟨he, hm⟩ => ⟨he, n, hm.symm⟩

theorem domain_any (v : Value) (xs : List Int) (ok : Nat → Prop) (w : World) (h1 : Sl (Kd.int .i64) w ok v xs) :
    Calls Tryz.prog 28 #[v] w fun e w' => e = .returned (.bool (domainB xs)) ∧ ∃ n, w' = w.drewN n := by
  have H := h1
  obtain ⟨A, c, rfl, hc, hm, hA⟩ := h1
  by_cases h0 : 0 < xs.length
  · obtain ⟨b, o, rfl, c0⟩ := hA.num h0
    obtain ⟨b', o', he, c1⟩ := hA.num (j := xs.length - 1) (by omega)
    injection he with he
    injection he with he1 he2
    subst he1 he2
    clear hA
    simp only [Nat.add_zero] at c0
    have hs0 : IntKind.i64.wrap ((xs.length:Int) - 1) = (xs.length:Int) - 1 := IntWalk.i64_in _ (by omega)
    have hs1 : ((xs.length:Int) - 1).toNat = xs.length - 1 := by omega
    go_enter Tryz.func28, Tryz.ntmps28
    go_wp2_with (first | (go_at_call 52; refine (rising_any _ _ _ _ H).mono ?_; rintro e w' ⟨rfl, nd, rfl⟩) | (go_at_call 53; refine (small_any _ _ _ (by omega) (by omega)).mono ?_; rintro e w' ⟨rfl, rfl⟩))
    all_goals go_ret
    all_goals exact ⟨ret_bool (by simp [domainB, *]; try omega), by first | exact ⟨_, rfl⟩ | exact ⟨0, rfl⟩⟩
  · have hs : xs.length = 0 := by omega
    go_enter Tryz.func28, Tryz.ntmps28
    go_wp2
    all_goals go_ret
    all_goals exact ⟨ret_bool (by simp [domainB, *]), ⟨0, rfl⟩⟩

/-- A slice of rows of numbers. -/
abbrev kRow : Kd (List Int) := Kd.slice (Kd.int .i64) (by decide)
abbrev kRows : Kd (List (List Int)) := Kd.slice kRow (by decide)

theorem below_alloc1 (w : World) (o : Obj) : Below w.heap.size w (w.alloc o) := (Below.refl _ _).alloc (Nat.le_refl _) o

theorem Sl.drewN {α : Type} {d : Kd α} {w : World} {ok : Nat → Prop} {v : Value} {xs : List α} (hs : 0 < d.sz) (h : Sl d w ok v xs) (n : Nat) : Sl d (w.drewN n) ok v xs :=
  h.below hs (below_drewN (Below.refl _ _) n)

theorem scope_any (vD vH vS v : Value) (doms : List (List Int)) (xs : List Int) (ok : Nat → Prop) (w : World) (hD : Sl kRow w ok vD doms) (h1 : Sl (Kd.int .i64) w ok v xs) :
    Calls Tryz.prog 55 #[.agg #[vD, vH, vS], v] w fun e w' => e = .returned (.bool (scopeB doms.length xs)) ∧ Below w.heap.size w w' := by
  obtain ⟨A', c', rfl, hc', hm', hA'⟩ := hD
  have H := Sl.below (by decide) h1 (below_alloc1 w (.cells #[.slice A' doms.length c', vH, vS] 26))
  have HB := below_alloc1 w (.cells #[.slice A' doms.length c', vH, vS] 26)
  obtain ⟨A, c, rfl, hc, hm, hA⟩ := h1
  have hA := Sl.elems H
  by_cases h0 : 0 < xs.length
  · obtain ⟨b, o, rfl, c0⟩ := hA.num h0
    obtain ⟨b', o', he, c1⟩ := hA.num (j := xs.length - 1) (by omega)
    injection he with he
    injection he with he1 he2
    subst he1 he2
    simp only [Nat.add_zero] at c0
    have hs0 : IntKind.i64.wrap ((xs.length:Int) - 1) = (xs.length:Int) - 1 := IntWalk.i64_in _ (by omega)
    have hs1 : ((xs.length:Int) - 1).toNat = xs.length - 1 := by omega
    clear hA hA'
    go_enter Tryz.func55, Tryz.ntmps55
    go_wp2
    refine wp_region_quiet_lit (by kernel_rfl) (by kernel_rfl) ?_
    repeat (any_goals (first | go_big_quiet_step ((go_at_call 52; exact Calls.quiet_of (rising_any _ _ _ _ (H.drewN (by decide) _)))) | quiet_step ((go_at_call 52; exact Calls.quiet_of (rising_any _ _ _ _ (H.drewN (by decide) _)))) | (refine wpQuiet_step (fun K hK => ?_); go_simp; split <;> (refine hK _ ?_; clear hK K))))
    all_goals (refine wpQuiet_nil ?_; intro _ hw'; obtain ⟨nq, hw''⟩ := hw'; subst hw'')
    all_goals go_wp2
    all_goals go_ret
    all_goals exact ⟨ret_bool (by simp [scopeB, *]; try omega), below_drewN HB _⟩
  · have hz : decide (0 < xs.length) = false := decide_eq_false h0
    clear hA hA'
    go_enter Tryz.func55, Tryz.ntmps55
    go_wp2
    go_quiet (fail)
    go_wp2
    go_ret
    exact ⟨ret_bool (by simp only [scopeB, hz, Bool.false_and]), below_drewN HB _⟩

theorem linear_any (vs vr va : Value) (c : Con) (ok : Nat → Prop) (w : World) (h1 : Sl (Kd.int .i64) w ok vs c.scope) (h2 : Sl (Kd.int .i64) w ok va c.args) :
    Calls Tryz.prog 56 #[.agg #[.int .i64 c.kind, vs, vr, va]] w fun e w' => e = .returned (.bool (linearB c)) ∧ Below w.heap.size w w' := by
  obtain ⟨A, cp, rfl, hc, hm, hA⟩ := h1
  obtain ⟨A', c', rfl, hc', hm', hA'⟩ := h2
  have HB := below_alloc1 w (.cells #[.int .i64 c.kind, .slice A c.scope.length cp, vr, .slice A' c.args.length c'] 43)
  have H := Sl.below (v := .slice A' c.args.length c') (xs := c.args) (by decide) ⟨A', c', rfl, hc', hm', hA'⟩ HB
  have hA := Sl.elems H
  clear H hA'
  by_cases hl : c.args.length = c.scope.length + 2
  · obtain ⟨b, o, rfl, c1⟩ := hA.num (j := c.scope.length) (by omega)
    have hb : ((c.args.length : Int) != c.scope.length + 2) = false := by simp; omega
    have hlt : c.scope.length < c.args.length := by omega
    have hl' := Lib.hid hl
    clear hl
    by_cases hq1 : 0 ≤ nth 0 c.args c.scope.length
    · by_cases hq2 : nth 0 c.args c.scope.length ≤ 2
      · go_enter Tryz.func56, Tryz.ntmps56
        go_wp2
        clear c1
        go_loop [34] (fun i => ∃ k : Nat, i = .int .i64 k ∧ k ≤ c.args.length ∧ Hid (argsB c.scope.length 0 c.args = argsB c.scope.length k (c.args.drop k))) (fun i => c.args.length - (intOf i).toNat)
        case atStart => exact ⟨0, rfl, by omega, Lib.hid rfl⟩
        case round =>
          obtain ⟨k, rfl, hk, H⟩ := hrel
          by_cases hkl : k < c.args.length
          · obtain ⟨b', o', he, c2⟩ := hA.num hkl
            injection he with he
            injection he with he1 he2
            subst he1 he2
            have H' : Hid (argsB c.scope.length k (c.args.drop k) = (!(decide (k < c.scope.length) && decide (nth 0 c.args k = 0)) && smallB (nth 0 c.args k) 1000000 && argsB c.scope.length (k + 1) (c.args.drop (k + 1)))) := by
              rw [drop_cons c.args 0 k hkl, argsB]; exact Lib.hid rfl
            clear hA
            by_cases hz : k < c.scope.length ∧ nth 0 c.args k = 0
            · obtain ⟨hz1, hz2⟩ := hz
              have hz3 : (nth 0 c.args k == 0) = true := by simp [hz2]
              have hz2 := Lib.hid hz2
              go_wp2_with (go_at_call 53; refine (small_any _ _ _ (by omega) (by omega)).mono ?_; rintro e w' ⟨rfl, rfl⟩)
              go_ret
              exact ⟨ret_bool (by unfold linearB; rw [H.out, H'.out, hz2.out]; simp [hz1]), HB⟩
            · have hz4 : ¬ (k < c.scope.length ∧ (nth 0 c.args k == 0) = true) := by simpa using hz
              have hz' : Hid ((!(decide (k < c.scope.length) && decide (nth 0 c.args k = 0))) = true) := by
                have : (decide (k < c.scope.length) && decide (nth 0 c.args k = 0)) = false := by
                  rw [Bool.and_eq_false_iff, decide_eq_false_iff_not, decide_eq_false_iff_not]; exact (Classical.not_and_iff_not_or_not.1 hz)
                rw [this]; exact Lib.hid rfl
              clear hz
              by_cases hz1 : k < c.scope.length
              · have hz5 : (nth 0 c.args k == 0) = false := by simpa [hz1] using hz4
                clear hz4
                cases hs : smallB (nth 0 c.args k) 1000000
                · go_wp2_with (go_at_call 53; refine (small_any _ _ _ (by omega) (by omega)).mono ?_; rintro e w' ⟨rfl, rfl⟩)
                  go_ret
                  exact ⟨ret_bool (by unfold linearB; rw [H.out, H'.out, hs]; simp), HB⟩
                · go_wp2_with (go_at_call 53; refine (small_any _ _ _ (by omega) (by omega)).mono ?_; rintro e w' ⟨rfl, rfl⟩)
                  go_round
                  case rel => exact ⟨k + 1, by go_num, by omega, Lib.hid (by rw [H.out, H'.out, hz'.out, hs]; simp)⟩
                  case measure => simp [intOf]; omega
              · clear hz4
                cases hs : smallB (nth 0 c.args k) 1000000
                · go_wp2_with (go_at_call 53; refine (small_any _ _ _ (by omega) (by omega)).mono ?_; rintro e w' ⟨rfl, rfl⟩)
                  go_ret
                  exact ⟨ret_bool (by unfold linearB; rw [H.out, H'.out, hs]; simp), HB⟩
                · go_wp2_with (go_at_call 53; refine (small_any _ _ _ (by omega) (by omega)).mono ?_; rintro e w' ⟨rfl, rfl⟩)
                  go_round
                  case rel => exact ⟨k + 1, by go_num, by omega, Lib.hid (by rw [H.out, H'.out, hz'.out, hs]; simp)⟩
                  case measure => simp [intOf]; omega
          · go_wp2
            go_ret
            exact ⟨ret_bool (by unfold linearB; rw [H.out, List.drop_eq_nil_of_le (by omega)]; simp [argsB, hl'.out, hq1, hq2]), HB⟩
      · go_enter Tryz.func56, Tryz.ntmps56
        go_wp2
        go_ret
        exact ⟨ret_bool (by simp [linearB]; omega), HB⟩
    · go_enter Tryz.func56, Tryz.ntmps56
      go_wp2
      go_ret
      exact ⟨ret_bool (by simp [linearB]; omega), HB⟩
  · have hb : ((c.args.length : Int) != c.scope.length + 2) = true := by simp; omega
    go_enter Tryz.func56, Tryz.ntmps56
    go_wp2
    go_ret
    exact ⟨ret_bool (by simp [linearB, hl]), HB⟩
end Go.Proofs.YtoahaigfjfeopaaGreatDoor

/- What inst.rows, hard, soft and Right compute. -/
namespace Go.Proofs.YtoahaigfjfeopaaGreatDoor
open Go.RowKit

def ahead (rows : List (List Int)) : Nat → Option (List Int)
  | 0 => none
  | k + 1 => some (nth [] rows k)
theorem rowsB_drop (doms : List (List Int)) (scope : List Int) (rows : List (List Int)) (k : Nat) (h : k < rows.length) :
    rowsB doms scope (ahead rows k) (rows.drop k) = (decide ((nth [] rows k).length = scope.length) && (match ahead rows k with | none => true | some p => decide (cmpL p (nth [] rows k) < 0)) && inDoms doms scope (nth [] rows k) && rowsB doms scope (ahead rows (k + 1)) (rows.drop (k + 1))) := by
  rw [drop_cons rows [] k h]; rfl
theorem inDoms_drop (doms : List (List Int)) (s t : List Int) (k : Nat) (h : k < s.length) (h' : k < t.length) :
    inDoms doms (s.drop k) (t.drop k) = (decide (nth 0 t k ∈ nth [] doms (nth 0 s k).toNat) && inDoms doms (s.drop (k + 1)) (t.drop (k + 1))) := by
  rw [drop_cons s 0 k h, drop_cons t 0 k h', inDoms]

set_option maxRecDepth 100000 in
theorem rows_any (vD vH vS vs v : Value) (doms : List (List Int)) (scope : List Int) (rows : List (List Int)) (ok : Nat → Prop) (w : World) (hD : Sl kRow w ok vD doms) (hs : Sl (Kd.int .i64) w ok vs scope) (hr : Sl kRow w ok v rows)
    (hsc : ∀ k, k < scope.length → 0 ≤ nth 0 scope k ∧ nth 0 scope k < doms.length) :
    Calls Tryz.prog 57 #[.agg #[vD, vH, vS], vs, v] w fun e w' => e = .returned (.bool (rowsB doms scope none rows)) ∧ Below w.heap.size w w' := by
  obtain ⟨AD, cD, rfl, hcD, hmD, hAD⟩ := hD
  have HB := below_alloc1 w (.cells #[.slice AD doms.length cD, vH, vS] 26)
  have HD := Sl.elems (Sl.below (v := .slice AD doms.length cD) (xs := doms) (by decide) ⟨AD, cD, rfl, hcD, hmD, hAD⟩ HB)
  clear hAD
  obtain ⟨As, cs, rfl, hcs, hms, hAs⟩ := hs
  have HS := Sl.elems (Sl.below (v := .slice As scope.length cs) (xs := scope) (by decide) ⟨As, cs, rfl, hcs, hms, hAs⟩ HB)
  clear hAs
  obtain ⟨A, c, rfl, hc, hm, hA⟩ := hr
  have HR := Sl.elems (Sl.below (v := .slice A rows.length c) (xs := rows) (by decide) ⟨A, c, rfl, hc, hm, hA⟩ HB)
  clear hA
  have hsc' := Lib.hid hsc
  clear hsc
  go_enter Tryz.func57, Tryz.ntmps57
  go_wp2
  go_loopw [13] (fun i wr => ∃ k : Nat, i = .int .i64 k ∧ k ≤ rows.length ∧ Hid (rowsB doms scope none rows = rowsB doms scope (ahead rows k) (rows.drop k)) ∧ ∃ n, wr = (w.alloc (.cells #[.slice AD doms.length cD, vH, vS] 26)).drewN n) (fun i _ => rows.length - (intOf i).toNat)
  case atStart => exact ⟨0, rfl, by omega, Lib.hid rfl, 0, rfl⟩
  case round =>
    obtain ⟨k, rfl, hk, H, nd, rfl⟩ := hrel
    by_cases hkl : k < rows.length
    · obtain ⟨b, o, vt, rfl, c1, ht⟩ := HR.row hkl
      obtain ⟨At, ct, rfl, hct, hmt, hAt⟩ := ht
      have H' := Lib.hid (rowsB_drop doms scope rows k hkl)
      by_cases hlen : (nth [] rows k).length = scope.length
      · have hb : (((nth [] rows k).length : Int) != scope.length) = false := by simp; omega
        have hlen' : (nth [] rows k).length ≤ scope.length ∧ scope.length ≤ (nth [] rows k).length := by omega
        obtain ⟨hl1, hl2⟩ := hlen'
        have hlen := Lib.hid hlen
        have hSt : Sl (Kd.int .i64) (w.alloc (.cells #[.slice AD doms.length cD, vH, vS] 26)) ok (.slice At scope.length ct) (nth [] rows k) := by rw [← hlen.out]; exact ⟨At, ct, rfl, hct, hmt, hAt⟩
        by_cases hC : 0 < k ∧ ¬ cmpL (nth [] rows (k - 1)) (nth [] rows k) < 0
        · obtain ⟨hpos, hcmp⟩ := hC
          obtain ⟨b', o', vp, he, c2, hp⟩ := HR.row (j := k - 1) (by omega)
          injection he with he
          injection he with he1 he2
          subst he1 he2
          have hs0 : IntKind.i64.wrap ((k:Int) - 1) = (k:Int) - 1 := IntWalk.i64_in _ (by omega)
          have hs1 : ((k:Int) - 1).toNat = k - 1 := by omega
          have hah : Hid ((match ahead rows k with | none => true | some p => decide (cmpL p (nth [] rows k) < 0)) = false) := by
            obtain ⟨j, rfl⟩ : ∃ j, k = j + 1 := ⟨k - 1, by omega⟩
            exact Lib.hid (decide_eq_false hcmp)
          have hcp' := Lib.hid (fun n => tcompare_any vp (.slice At scope.length ct) _ _ ok ((w.alloc (.cells #[.slice AD doms.length cD, vH, vS] 26)).drewN n) (hp.drewN (by decide) n) (hSt.drewN (by decide) n))
          clear hp
          go_wp2_with (go_at_call 89; refine (hcp'.out _).mono ?_; rintro e w' ⟨rfl, rfl⟩)
          go_ret
          exact ⟨ret_bool (by rw [H.out, H'.out, hah.out]; simp), below_drewN HB _⟩
        · have Hgo : Hid ((match ahead rows k with | none => true | some p => decide (cmpL p (nth [] rows k) < 0)) = true) := by
            cases k with
            | zero => exact Lib.hid rfl
            | succ j => exact Lib.hid (decide_eq_true (Classical.not_not.1 fun h => hC ⟨Nat.succ_pos _, h⟩))
          have Hx : Hid (rowsB doms scope none rows = (inDoms doms scope (nth [] rows k) && rowsB doms scope (ahead rows (k + 1)) (rows.drop (k + 1)))) := by
            apply Lib.hid; rw [H.out, H'.out, Hgo.out, hlen.out]; simp only [decide_true, Bool.true_and]
          clear H H'
          have hin : 0 < k ∧ cmpL (nth [] rows (k - 1)) (nth [] rows k) < 0 ∨ ¬ 0 < k := by
            rcases Nat.lt_or_ge 0 k with h | h
            · exact .inl ⟨h, Classical.not_not.1 fun h' => hC ⟨h, h'⟩⟩
            · exact .inr (by omega)
          clear hC Hgo
          have hfacts : ∃ vp, (0 < k → (w.alloc (.cells #[.slice AD doms.length cD, vH, vS] 26)).cell? ⟨b, o + (k - 1), none⟩ = some vp) ∧ ∀ n, 0 < k → Calls Tryz.prog 89 #[vp, .slice At scope.length ct] ((w.alloc (.cells #[.slice AD doms.length cD, vH, vS] 26)).drewN n) fun e w' => e = .returned (.int .i64 (cmpL (nth [] rows (k - 1)) (nth [] rows k))) ∧ (w.alloc (.cells #[.slice AD doms.length cD, vH, vS] 26)).drewN n = w' := by
            rcases hin with ⟨hpos, _⟩ | hpos
            · obtain ⟨b', o', vp, he, c2, hp⟩ := HR.row (j := k - 1) (by omega)
              injection he with he
              injection he with he1 he2
              subst he1 he2
              exact ⟨vp, fun _ => c2, fun n _ => tcompare_any _ _ _ _ ok _ (hp.drewN (by decide) n) (hSt.drewN (by decide) n)⟩
            · exact ⟨undef, fun h => absurd h hpos, fun _ h => absurd h hpos⟩
          obtain ⟨vp, c2, hcp⟩ := hfacts
          have hcp' := Lib.hid hcp
          clear hcp
          have hs0 : 0 < k → IntKind.i64.wrap ((k:Int) - 1) = (k:Int) - 1 := fun h => IntWalk.i64_in _ (by omega)
          have hs1 : 0 < k → ((k:Int) - 1).toNat = k - 1 := by omega
          rcases hin with ⟨hpos, hcmp⟩ | hpos
          all_goals
            first | replace c2 := c2 hpos | clear c2
            first | replace hs0 := hs0 hpos | clear hs0
            first | replace hs1 := hs1 hpos | clear hs1
            go_wp2_with (go_at_call 89; refine (hcp'.out _ hpos).mono ?_; rintro e w' ⟨rfl, rfl⟩)
            try clear hcmp c2 hs0 hs1
            clear hcp'
            go_loopw [39] (fun i wr => ∃ m : Nat, i = .int .i64 m ∧ m ≤ scope.length ∧ Hid (inDoms doms scope (nth [] rows k) = inDoms doms (scope.drop m) ((nth [] rows k).drop m)) ∧ ∃ n, wr = (w.alloc (.cells #[.slice AD doms.length cD, vH, vS] 26)).drewN n) (fun i _ => scope.length - (intOf i).toNat)
            case atStart => exact ⟨0, rfl, by omega, Lib.hid rfl, _, rfl⟩
            case round =>
              obtain ⟨m, rfl, hm1, G, nd1, rfl⟩ := hrel
              by_cases hml : m < scope.length
              · obtain ⟨b1, o1, rfl, d1⟩ := HS.num hml
                obtain ⟨b2, o2, rfl, d2⟩ := (Sl.elems hSt).num (j := m) (by rw [hlen.out]; exact hml)
                obtain ⟨q1, q2⟩ := hsc'.out m hml
                obtain ⟨b3, o3, v3, rfl, d3, hd3⟩ := HD.row (j := (nth 0 scope m).toNat) (by omega)
                have G' := Lib.hid (inDoms_drop doms scope (nth [] rows k) m hml (by rw [hlen.out]; exact hml))
                have hct' := Lib.hid (fun n => contains_any v3 _ (nth 0 (nth [] rows k) m) ok ((w.alloc (.cells #[.slice (some ⟨b3, o3, none⟩) doms.length cD, vH, vS] 26)).drewN n) (hd3.drewN (by decide) n))
                clear HS hSt HD hd3
                go_wp2
                go_quiet ((go_at_call 90; exact quiet_add_left (hct'.out _)))
                cases hmem : decide (nth 0 (nth [] rows k) m ∈ nth [] doms (nth 0 scope m).toNat)
                · go_wp2
                  go_ret
                  exact ⟨ret_bool (by rw [Hx.out, G.out, G'.out, hmem]; simp), by first | exact below_drewN HB _ | exact below_drewN (below_drewN HB _) _⟩
                · go_wp2
                  go_roundw
                  case rel => exact ⟨m + 1, by go_num, by omega, Lib.hid (by rw [G.out, G'.out, hmem]; simp), by first | exact ⟨_, rfl⟩ | exact ⟨_, World.drewN_drewN ..⟩⟩
                  case measure => simp [intOf]; omega
              · go_wp2
                go_roundw
                case rel => exact ⟨k + 1, by go_num, by omega, Lib.hid (by rw [Hx.out, G.out, List.drop_eq_nil_of_le (show scope.length ≤ m by omega)]; simp [inDoms]), by first | exact ⟨_, rfl⟩ | exact ⟨_, World.drewN_drewN ..⟩⟩
                case measure => simp [intOf]; omega
      · have hb : (((nth [] rows k).length : Int) != scope.length) = true := by simp; omega
        go_wp2
        go_ret
        exact ⟨ret_bool (by rw [H.out, H'.out, decide_eq_false hlen]; simp), below_drewN HB _⟩
    · go_wp2
      go_ret
      exact ⟨ret_bool (by rw [H.out, List.drop_eq_nil_of_le (by omega)]; cases k <;> rfl), below_drewN HB _⟩

/-- A hard constraint, a soft one. -/
abbrev kCon : Kd Con := Kd.iso (Kd.pair (Kd.int .i64) (Kd.pair kRow (Kd.pair kRows kRow))) (fun c => (c.kind, c.scope, c.rows, c.args))
abbrev kSft : Kd Sft := Kd.iso (Kd.pair kRow (Kd.pair kRows (Kd.pair kRow (Kd.int .i64)))) (fun s => (s.scope, s.rows, s.costs, s.dflt))
theorem kCon_cells {w : World} {ok : Nat → Prop} {c : Con} {cs : List Value} (h : kCon.K w ok c cs) : ∃ vs vr va, cs = [.int .i64 c.kind, vs, vr, va] ∧ Sl (Kd.int .i64) w ok vs c.scope ∧ Sl kRow w ok vr c.rows ∧ Sl (Kd.int .i64) w ok va c.args := by
  obtain ⟨_, _, rfl, h0, _, _, rfl, ⟨vs, rfl, h1⟩, _, _, rfl, ⟨vr, rfl, h2⟩, va, rfl, h3⟩ := h
  exact ⟨vs, vr, va, by rw [show _ = [Value.int .i64 c.kind] from h0]; rfl, h1, h2, h3⟩
theorem kSft_cells {w : World} {ok : Nat → Prop} {s : Sft} {cs : List Value} (h : kSft.K w ok s cs) : ∃ vs vr vc, cs = [vs, vr, vc, .int .i64 s.dflt] ∧ Sl (Kd.int .i64) w ok vs s.scope ∧ Sl kRow w ok vr s.rows ∧ Sl (Kd.int .i64) w ok vc s.costs := by
  obtain ⟨_, _, rfl, ⟨vs, rfl, h1⟩, _, _, rfl, ⟨vr, rfl, h2⟩, _, _, rfl, ⟨vc, rfl, h3⟩, h0⟩ := h
  exact ⟨vs, vr, vc, by rw [show _ = [Value.int .i64 s.dflt] from h0]; rfl, h1, h2, h3⟩
theorem kCon_mk {w : World} {ok : Nat → Prop} {c : Con} {vs vr va : Value} (h1 : Sl (Kd.int .i64) w ok vs c.scope) (h2 : Sl kRow w ok vr c.rows) (h3 : Sl (Kd.int .i64) w ok va c.args) : kCon.K w ok c [.int .i64 c.kind, vs, vr, va] :=
  ⟨[_], [_, _, _], rfl, rfl, [_], [_, _], rfl, ⟨_, rfl, h1⟩, [_], [_], rfl, ⟨_, rfl, h2⟩, _, rfl, h3⟩
theorem kSft_mk {w : World} {ok : Nat → Prop} {s : Sft} {vs vr vc : Value} (h1 : Sl (Kd.int .i64) w ok vs s.scope) (h2 : Sl kRow w ok vr s.rows) (h3 : Sl (Kd.int .i64) w ok vc s.costs) : kSft.K w ok s [vs, vr, vc, .int .i64 s.dflt] :=
  ⟨[_], [_, _, _], rfl, ⟨_, rfl, h1⟩, [_], [_, _], rfl, ⟨_, rfl, h2⟩, [_], [_], rfl, ⟨_, rfl, h3⟩, rfl⟩

theorem scopeB_bounds {n : Nat} {l : List Int} (h : scopeB n l = true) : ∀ k, k < l.length → 0 ≤ nth 0 l k ∧ nth 0 l k < n := by
  simp only [scopeB, Bool.and_eq_true, decide_eq_true_eq] at h
  obtain ⟨⟨⟨⟨h0, _⟩, hr⟩, h1⟩, h2⟩ := h
  have mono : ∀ (j k : Nat), j + k < l.length → nth 0 l k ≤ nth 0 l (j + k) ∧ True := by
    have step : ∀ k, k + 1 < l.length → nth 0 l k < nth 0 l (k + 1) := by
      intro k hk
      have : risingB (l.drop k) = true := by
        induction k with
        | zero => exact hr
        | succ k ih =>
          have := ih (by omega)
          rw [risingB_drop l k (by omega)] at this
          simp only [Bool.and_eq_true] at this
          exact this.2
      rw [risingB_drop l k hk] at this
      simp only [Bool.and_eq_true, decide_eq_true_eq] at this
      exact this.1
    intro j
    induction j with
    | zero => intro k _; simp
    | succ j ih =>
      intro k hk
      have a := ih k (by omega)
      have b := step (j + k) (by omega)
      rw [show j + 1 + k = j + k + 1 from by omega]
      exact ⟨by omega, trivial⟩
  intro k hk
  have a := mono k 0 (by omega)
  have b := mono (l.length - 1 - k) k (by omega)
  rw [show l.length - 1 - k + k = l.length - 1 from by omega] at b
  simp only [Nat.add_zero] at a
  exact ⟨Int.le_trans h1 a.1, Int.lt_of_le_of_lt b.1 h2⟩

set_option maxRecDepth 100000 in
theorem hard_any (vD vH vS vs vr va : Value) (x : Ins) (c : Con) (ok : Nat → Prop) (w : World) (hD : Sl kRow w ok vD x.doms) (h1 : Sl (Kd.int .i64) w ok vs c.scope) (h2 : Sl kRow w ok vr c.rows) (h3 : Sl (Kd.int .i64) w ok va c.args) :
    Calls Tryz.prog 31 #[.agg #[vD, vH, vS], .agg #[.int .i64 c.kind, vs, vr, va]] w fun e w' => e = .returned (.bool (hardB x c)) ∧ Below w.heap.size w w' := by
  obtain ⟨AD, cD, rfl, hcD, hmD, hAD⟩ := hD
  obtain ⟨As, cs, rfl, hcs, hms, hAs⟩ := h1
  obtain ⟨Ar, cr, rfl, hcr, hmr, hAr⟩ := h2
  obtain ⟨Aa, ca, rfl, hca, hma, hAa⟩ := h3
  have HB0 := (below_alloc1 w (.cells #[.slice AD x.doms.length cD, vH, vS] 26)).alloc (by simp) (.cells #[.int .i64 c.kind, .slice As c.scope.length cs, .slice Ar c.rows.length cr, .slice Aa c.args.length ca] 43)
  have HD := Sl.below (v := .slice AD x.doms.length cD) (xs := x.doms) (by decide) ⟨AD, cD, rfl, hcD, hmD, hAD⟩ HB0
  have HS := Sl.below (v := .slice As c.scope.length cs) (xs := c.scope) (by decide) ⟨As, cs, rfl, hcs, hms, hAs⟩ HB0
  have HR := Sl.below (v := .slice Ar c.rows.length cr) (xs := c.rows) (by decide) ⟨Ar, cr, rfl, hcr, hmr, hAr⟩ HB0
  have HA := Sl.below (v := .slice Aa c.args.length ca) (xs := c.args) (by decide) ⟨Aa, ca, rfl, hca, hma, hAa⟩ HB0
  clear hAD hAs hAr hAa
  have HB := Lib.hid HB0
  clear HB0
  have hsc := scope_any _ vH vS _ _ _ ok _ HD HS
  have hsc' := Lib.hid hsc
  clear hsc
  go_enter Tryz.func31, Tryz.ntmps31
  go_wp2_with (go_at_call 55; refine (hsc'.out).mono ?_; rintro e w' ⟨rfl, hb⟩; (obtain ⟨hc, hb'⟩ : (∀ b o, _ → _) ∧ Hid _ := ⟨bcell hb, Lib.hid hb⟩); clear hb)
  all_goals try (go_at_call 56; refine (linear_any _ _ _ _ _ _ (HS.below (by decide) hb'.out) (HA.below (by decide) hb'.out)).mono ?_; rintro e w'' ⟨rfl, hb⟩; have hb2 := Lib.hid hb; clear hb; go_wp2)
  all_goals try (go_at_call 57; refine (rows_any _ _ _ _ _ _ _ _ _ _ (HD.below (by decide) hb'.out) (HS.below (by decide) hb'.out) (HR.below (by decide) hb'.out) (scopeB_bounds (by assumption))).mono ?_; rintro e w'' ⟨rfl, hb⟩; have hb2 := Lib.hid hb; clear hb; go_wp2)
  all_goals go_ret
  all_goals refine ⟨ret_bool ?_, by first | exact below_next (below_next HB.out hb'.out) hb2.out | exact below_next HB.out hb'.out⟩
  all_goals clear hc hsc' HD HS HR HA HB hb'
  all_goals try clear hb2
  all_goals try (simp_all [hardB]; done)
  all_goals simp_all [hardB]
  all_goals first | (intro h1; exfalso; omega) | (intro h1; exfalso; have h2 := congrArg List.length h1; simp only [List.length_nil] at h2; omega)
end Go.Proofs.YtoahaigfjfeopaaGreatDoor

/- What inst.soft and Right compute: with functions handed to slices.ContainsFunc. -/
namespace Go.Proofs.YtoahaigfjfeopaaGreatDoor
open Go.RowKit

def findFrom {α : Type} (p : α → Bool) : Nat → List α → Int
  | _, [] => -1
  | i, a :: r => if p a = true then i else findFrom p (i + 1) r
theorem findFrom_ge {α : Type} (p : α → Bool) : ∀ (l : List α) (i : Nat), decide (0 ≤ findFrom p i l) = l.any p
  | [], i => by simp [findFrom]
  | a :: r, i => by
    unfold findFrom
    cases h : p a
    · simp [h, findFrom_ge p r (i + 1)]
    · simp [h]
theorem findFrom_drop {α : Type} (p : α → Bool) (z : α) (xs : List α) (k : Nat) (h : k < xs.length) : findFrom p k (xs.drop k) = if p (nth z xs k) = true then (k : Int) else findFrom p (k + 1) (xs.drop (k + 1)) := by
  rw [drop_cons xs z k h, findFrom]

theorem wide_any (n : Int) (w : World) : Calls Tryz.prog 59 #[.int .i64 n] w fun e w' => e = .returned (.bool (!smallB n 1000000000000)) ∧ w = w' := by
  go_enter Tryz.func59, Tryz.ntmps59
  go_wp2_with (go_at_call 60; refine (small64_any _ _ _ (by omega) (by omega)).mono ?_; rintro e w' ⟨rfl, rfl⟩)
  go_ret
  exact ⟨rfl, rfl⟩
theorem indexWide_any (v : Value) (xs : List Int) (ok : Nat → Prop) (w : World) (h1 : Sl (Kd.int .i64) w ok v xs) :
    Calls Tryz.prog 91 #[v, .func (.func 59) #[] #[]] w fun e w' => e = .returned (.int .i64 (findFrom (fun n => !smallB n 1000000000000) 0 xs)) ∧ w = w' := by
  obtain ⟨A, c, rfl, hc, hm, hA⟩ := h1
  go_enter Tryz.func91, Tryz.ntmps91
  go_wp2
  go_loop [8] (fun i => ∃ k : Nat, i = .int .i64 k ∧ k ≤ xs.length ∧ Hid (findFrom (fun n => !smallB n 1000000000000) 0 xs = findFrom (fun n => !smallB n 1000000000000) k (xs.drop k))) (fun i => xs.length - (intOf i).toNat)
  case atStart => exact ⟨0, rfl, by omega, Lib.hid rfl⟩
  case round =>
    obtain ⟨k, rfl, hk, H⟩ := hrel
    by_cases hlt : k < xs.length
    · obtain ⟨b, o, rfl, hcell⟩ := hA.num hlt
      have H' := Lib.hid (findFrom_drop (fun n => !smallB n 1000000000000) 0 xs k hlt)
      clear hA
      cases hs : smallB (nth 0 xs k) 1000000000000
      · go_wp2_with (go_at_call 59; refine (wide_any _ _).mono ?_; rintro e w' ⟨rfl, rfl⟩)
        go_ret
        exact ⟨ret_int (by rw [H.out, H'.out, hs]; simp), rfl⟩
      · go_wp2_with (go_at_call 59; refine (wide_any _ _).mono ?_; rintro e w' ⟨rfl, rfl⟩)
        go_round
        case rel => exact ⟨k + 1, by go_num, by omega, Lib.hid (by rw [H.out, H'.out, hs]; simp)⟩
        case measure => simp [intOf]; omega
    · go_wp2
      go_ret
      refine ⟨ret_int ?_, rfl⟩
      rw [H.out, List.drop_eq_nil_of_le (by omega)]; rfl
theorem anyWide_any (v : Value) (xs : List Int) (ok : Nat → Prop) (w : World) (h1 : Sl (Kd.int .i64) w ok v xs) :
    Calls Tryz.prog 61 #[v, .func (.func 59) #[] #[]] w fun e w' => e = .returned (.bool (wideAny xs)) ∧ w = w' := by
  have hx := Lib.hid (findFrom_ge (fun n => !smallB n 1000000000000) xs 0)
  go_enter Tryz.func61, Tryz.ntmps61
  go_wp2_with (go_at_call 91; refine (indexWide_any _ _ _ _ h1).mono ?_; rintro e w' ⟨rfl, rfl⟩)
  go_ret
  exact ⟨ret_bool hx.out, rfl⟩

set_option maxRecDepth 100000 in
theorem soft_any (vD vH vS vs vr vc : Value) (x : Ins) (s : Sft) (ok : Nat → Prop) (w : World) (hD : Sl kRow w ok vD x.doms) (h1 : Sl (Kd.int .i64) w ok vs s.scope) (h2 : Sl kRow w ok vr s.rows) (h3 : Sl (Kd.int .i64) w ok vc s.costs) :
    Calls Tryz.prog 34 #[.agg #[vD, vH, vS], .agg #[vs, vr, vc, .int .i64 s.dflt]] w fun e w' => e = .returned (.bool (softB x s)) ∧ Below w.heap.size w w' := by
  obtain ⟨AD, cD, rfl, hcD, hmD, hAD⟩ := hD
  obtain ⟨As, cs, rfl, hcs, hms, hAs⟩ := h1
  obtain ⟨Ar, cr, rfl, hcr, hmr, hAr⟩ := h2
  obtain ⟨Aa, ca, rfl, hca, hma, hAa⟩ := h3
  have HB0 := (below_alloc1 w (.cells #[.slice AD x.doms.length cD, vH, vS] 26)).alloc (by simp) (.cells #[.slice As s.scope.length cs, .slice Ar s.rows.length cr, .slice Aa s.costs.length ca, .int .i64 s.dflt] 47)
  have HD := Sl.below (v := .slice AD x.doms.length cD) (xs := x.doms) (by decide) ⟨AD, cD, rfl, hcD, hmD, hAD⟩ HB0
  have HS := Sl.below (v := .slice As s.scope.length cs) (xs := s.scope) (by decide) ⟨As, cs, rfl, hcs, hms, hAs⟩ HB0
  have HR := Sl.below (v := .slice Ar s.rows.length cr) (xs := s.rows) (by decide) ⟨Ar, cr, rfl, hcr, hmr, hAr⟩ HB0
  have HC := Sl.below (v := .slice Aa s.costs.length ca) (xs := s.costs) (by decide) ⟨Aa, ca, rfl, hca, hma, hAa⟩ HB0
  clear hAD hAs hAr hAa
  have HB := Lib.hid HB0
  clear HB0
  have hsc' := Lib.hid (scope_any _ vH vS _ _ _ ok _ HD HS)
  cases hq : wideAny s.costs
  all_goals
    go_enter Tryz.func34, Tryz.ntmps34
    go_wp2_with (first
      | (go_at_call 55; refine (hsc'.out).mono ?_; rintro e w' ⟨rfl, hb⟩; (obtain ⟨hc, hb'⟩ : (∀ b o, _ → _) ∧ Hid _ := ⟨bcell hb, Lib.hid hb⟩); clear hb)
      | (go_at_call 59; refine (wide_any _ _).mono ?_; rintro e w' ⟨rfl, rfl⟩)
      | (go_at_call 61; refine (anyWide_any _ _ _ _ (HC.below (by decide) hb'.out)).mono ?_; rintro e w' ⟨rfl, rfl⟩; rw [hq])
      | (go_at_call 57; refine (rows_any _ _ _ _ _ _ _ _ _ _ (HD.below (by decide) hb'.out) (HS.below (by decide) hb'.out) (HR.below (by decide) hb'.out) (scopeB_bounds (by assumption))).mono ?_; rintro e w'' ⟨rfl, hb⟩; have hb2 := Lib.hid hb; clear hb))
  all_goals go_ret
  all_goals refine ⟨ret_bool ?_, by first | exact below_next (below_next HB.out hb'.out) hb2.out | exact below_next HB.out hb'.out⟩
  all_goals clear hc hsc' HD HS HR HC HB hb'
  all_goals try clear hb2
  all_goals unfold softB
  all_goals rw [hq]
  all_goals clear hq
  all_goals by_cases e2 : s.costs.length = s.rows.length
  all_goals try (simp [*]; done)
  all_goals (exfalso; omega)
end Go.Proofs.YtoahaigfjfeopaaGreatDoor

/- inst.Right: its closures, slices.IndexFunc and ContainsFunc over them. -/
namespace Go.Proofs.YtoahaigfjfeopaaGreatDoor
open Go.RowKit

theorem right1_any (v : Value) (d : List Int) (ok : Nat → Prop) (w : World) (h : Sl (Kd.int .i64) w ok v d) :
    Calls Tryz.prog 27 #[v] w fun e w' => e = .returned (.bool (!domainB d)) ∧ Below w.heap.size w w' := by
  go_enter Tryz.func27, Tryz.ntmps27
  go_wp2_with (go_at_call 28; refine (domain_any _ _ _ _ h).mono ?_; rintro e w' ⟨rfl, nd, rfl⟩)
  go_ret
  exact ⟨rfl, below_drewN (Below.refl _ _) _⟩

set_option maxRecDepth 100000 in
theorem right2_any (vD vH vS vs vr va : Value) (x : Ins) (c : Con) (ok : Nat → Prop) (w : World) (hD : Sl kRow w ok vD x.doms) (h1 : Sl (Kd.int .i64) w ok vs c.scope) (h2 : Sl kRow w ok vr c.rows) (h3 : Sl (Kd.int .i64) w ok va c.args)
    (g : Nat) (hg : w.heap[g]? = some (.cells #[vD, vH, vS] 26 (0, 0))) :
    Calls Tryz.prog 30 #[.agg #[.int .i64 c.kind, vs, vr, va], .pointer (some ⟨g, 0, none⟩)] w fun e w' => e = .returned (.bool (!hardB x c)) ∧ Below w.heap.size w w' := by
  have HB := below_alloc1 w (.cells #[.int .i64 c.kind, vs, vr, va] 43)
  have g0 := cell_kept HB (cell_at hg (i := 0) (u := vD) rfl)
  have g1 := cell_kept HB (cell_at hg (i := 1) (u := vH) rfl)
  have g2 := cell_kept HB (cell_at hg (i := 2) (u := vS) rfl)
  have hcall := Lib.hid (hard_any _ vH vS _ _ _ x c ok _ (hD.below (by decide) HB) (h1.below (by decide) HB) (h2.below (by decide) HB) (h3.below (by decide) HB))
  clear hD h1 h2 h3 hg
  have HB' := Lib.hid HB
  clear HB
  go_enter Tryz.func30, Tryz.ntmps30
  go_wp2_with (go_at_call 31; refine hcall.out.mono ?_; rintro e w' ⟨rfl, hb⟩; have hb' := Lib.hid hb; clear hb)
  go_ret
  exact ⟨rfl, below_next HB'.out hb'.out⟩

set_option maxRecDepth 100000 in
theorem right3_any (vD vH vS vs vr vc : Value) (x : Ins) (s : Sft) (ok : Nat → Prop) (w : World) (hD : Sl kRow w ok vD x.doms) (h1 : Sl (Kd.int .i64) w ok vs s.scope) (h2 : Sl kRow w ok vr s.rows) (h3 : Sl (Kd.int .i64) w ok vc s.costs)
    (g : Nat) (hg : w.heap[g]? = some (.cells #[vD, vH, vS] 26 (0, 0))) :
    Calls Tryz.prog 33 #[.agg #[vs, vr, vc, .int .i64 s.dflt], .pointer (some ⟨g, 0, none⟩)] w fun e w' => e = .returned (.bool (!softB x s)) ∧ Below w.heap.size w w' := by
  have HB := below_alloc1 w (.cells #[vs, vr, vc, .int .i64 s.dflt] 47)
  have g0 := cell_kept HB (cell_at hg (i := 0) (u := vD) rfl)
  have g1 := cell_kept HB (cell_at hg (i := 1) (u := vH) rfl)
  have g2 := cell_kept HB (cell_at hg (i := 2) (u := vS) rfl)
  have hcall := Lib.hid (soft_any _ vH vS _ _ _ x s ok _ (hD.below (by decide) HB) (h1.below (by decide) HB) (h2.below (by decide) HB) (h3.below (by decide) HB))
  clear hD h1 h2 h3 hg
  have HB' := Lib.hid HB
  clear HB
  go_enter Tryz.func33, Tryz.ntmps33
  go_wp2_with (go_at_call 34; refine hcall.out.mono ?_; rintro e w' ⟨rfl, hb⟩; have hb' := Lib.hid hb; clear hb)
  go_ret
  exact ⟨rfl, below_next HB'.out hb'.out⟩
end Go.Proofs.YtoahaigfjfeopaaGreatDoor

/- slices.IndexFunc and ContainsFunc over inst.Right's closures; inst.Right. -/
namespace Go.Proofs.YtoahaigfjfeopaaGreatDoor
open Go.RowKit

set_option maxRecDepth 100000 in
theorem index1_any (v : Value) (xs : List (List Int)) (ok : Nat → Prop) (w : World) (h1 : Sl kRow w ok v xs) :
    Calls Tryz.prog 51 #[v, .func (.func 27) #[] #[]] w fun e w' => e = .returned (.int .i64 (findFrom (fun d => !domainB d) 0 xs)) ∧ Below w.heap.size w w' := by
  have H1 := h1
  obtain ⟨A, c, rfl, hc, hm, hA⟩ := h1
  clear hA
  go_enter Tryz.func51, Tryz.ntmps51
  go_wp2
  go_loopw [8] (fun i wr => ∃ k : Nat, i = .int .i64 k ∧ k ≤ xs.length ∧ Hid (findFrom (fun d => !domainB d) 0 xs = findFrom (fun d => !domainB d) k (xs.drop k)) ∧ Hid (Below w.heap.size w wr)) (fun i _ => xs.length - (intOf i).toNat)
  case atStart => exact ⟨0, rfl, by omega, Lib.hid rfl, Lib.hid (Below.refl _ _)⟩
  case round =>
    obtain ⟨k, rfl, hk, H, HB⟩ := hrel
    by_cases hlt : k < xs.length
    · obtain ⟨b, o, vt, rfl, c1, ht⟩ := (Sl.elems (H1.below (by decide) HB.out)).row hlt
      have H' := Lib.hid (findFrom_drop (fun d => !domainB d) [] xs k hlt)
      clear H1
      cases hs : domainB (nth [] xs k)
      · go_wp2_with (go_at_call 27; refine (right1_any _ _ _ _ ht).mono ?_; rintro e w' ⟨rfl, hb⟩; have hb' := Lib.hid hb; clear hb)
        go_ret
        exact ⟨ret_int (by rw [H.out, H'.out, hs]; simp), below_next HB.out hb'.out⟩
      · go_wp2_with (go_at_call 27; refine (right1_any _ _ _ _ ht).mono ?_; rintro e w' ⟨rfl, hb⟩; have hb' := Lib.hid hb; clear hb)
        go_roundw
        case rel => exact ⟨k + 1, by go_num, by omega, Lib.hid (by rw [H.out, H'.out, hs]; simp), Lib.hid (below_next HB.out hb'.out)⟩
        case measure => simp [intOf]; omega
    · go_wp2
      go_ret
      refine ⟨ret_int ?_, HB.out⟩
      rw [H.out, List.drop_eq_nil_of_le (by omega)]; rfl
theorem contains1_any (v : Value) (xs : List (List Int)) (ok : Nat → Prop) (w : World) (h1 : Sl kRow w ok v xs) :
    Calls Tryz.prog 26 #[v, .func (.func 27) #[] #[]] w fun e w' => e = .returned (.bool (xs.any (fun d => !domainB d))) ∧ Below w.heap.size w w' := by
  have hx := Lib.hid (findFrom_ge (fun d => !domainB d) xs 0)
  go_enter Tryz.func26, Tryz.ntmps26
  go_wp2_with (go_at_call 51; refine (index1_any _ _ _ _ h1).mono ?_; rintro e w' ⟨rfl, hb⟩; have hb' := Lib.hid hb; clear hb)
  go_ret
  exact ⟨ret_bool hx.out, hb'.out⟩

set_option maxRecDepth 100000 in
theorem index2_any (vD vH vS v : Value) (x : Ins) (xs : List Con) (ok : Nat → Prop) (w : World) (hD : Sl kRow w ok vD x.doms) (h1 : Sl kCon w ok v xs) (g : Nat) (hg : w.heap[g]? = some (.cells #[vD, vH, vS] 26 (0, 0))) :
    Calls Tryz.prog 54 #[v, .func (.func 30) #[] #[.pointer (some ⟨g, 0, none⟩)]] w fun e w' => e = .returned (.int .i64 (findFrom (fun c => !hardB x c) 0 xs)) ∧ Below w.heap.size w w' := by
  have H1 := h1
  have HD := hD
  have HG := Lib.hid hg
  obtain ⟨A, c, rfl, hc, hm, hA⟩ := h1
  clear hA hD hg
  go_enter Tryz.func54, Tryz.ntmps54
  go_wp2
  go_loopw [8] (fun i wr => ∃ k : Nat, i = .int .i64 k ∧ k ≤ xs.length ∧ Hid (findFrom (fun c => !hardB x c) 0 xs = findFrom (fun c => !hardB x c) k (xs.drop k)) ∧ Hid (Below w.heap.size w wr)) (fun i _ => xs.length - (intOf i).toNat)
  case atStart => exact ⟨0, rfl, by omega, Lib.hid rfl, Lib.hid (Below.refl _ _)⟩
  case round =>
    obtain ⟨k, rfl, hk, H, HB⟩ := hrel
    by_cases hlt : k < xs.length
    · obtain ⟨b, o, cs, rfl, _, hK, hcell⟩ := (Sl.elems (H1.below (by decide) HB.out)) k (nth default xs k) (nth_get default xs k hlt)
      obtain ⟨vs, vr, va, rfl, e1, e2, e3⟩ := kCon_cells hK
      have f0 := hcell 0 _ rfl
      have f1 := hcell 1 _ rfl
      have f2 := hcell 2 _ rfl
      have f3 := hcell 3 _ rfl
      simp only [show kCon.sz = 4 from rfl, Nat.add_zero, ← Nat.add_assoc] at f0 f1 f2 f3
      clear hcell hK
      have H' := Lib.hid (findFrom_drop (fun c => !hardB x c) default xs k hlt)
      have HD' := HD.below (by decide) HB.out
      have HG' := Lib.hid (block_kept HB.out HG.out)
      clear H1 HD HG
      cases hs : hardB x (nth default xs k)
      · go_wp2_with (go_at_call 30; refine (right2_any _ vH vS _ _ _ x _ ok _ HD' e1 e2 e3 g HG'.out).mono ?_; rintro e w' ⟨rfl, hb⟩; have hb' := Lib.hid hb; clear hb)
        go_ret
        exact ⟨ret_int (by rw [H.out, H'.out, hs]; simp), below_next HB.out hb'.out⟩
      · go_wp2_with (go_at_call 30; refine (right2_any _ vH vS _ _ _ x _ ok _ HD' e1 e2 e3 g HG'.out).mono ?_; rintro e w' ⟨rfl, hb⟩; have hb' := Lib.hid hb; clear hb)
        go_roundw
        case rel => exact ⟨k + 1, by go_num, by omega, Lib.hid (by rw [H.out, H'.out, hs]; simp), Lib.hid (below_next HB.out hb'.out)⟩
        case measure => simp [intOf]; omega
    · go_wp2
      go_ret
      refine ⟨ret_int ?_, HB.out⟩
      rw [H.out, List.drop_eq_nil_of_le (by omega)]; rfl
theorem contains2_any (vD vH vS v : Value) (x : Ins) (xs : List Con) (ok : Nat → Prop) (w : World) (hD : Sl kRow w ok vD x.doms) (h1 : Sl kCon w ok v xs) (g : Nat) (hg : w.heap[g]? = some (.cells #[vD, vH, vS] 26 (0, 0))) :
    Calls Tryz.prog 29 #[v, .func (.func 30) #[] #[.pointer (some ⟨g, 0, none⟩)]] w fun e w' => e = .returned (.bool (xs.any (fun c => !hardB x c))) ∧ Below w.heap.size w w' := by
  have hx := Lib.hid (findFrom_ge (fun c => !hardB x c) xs 0)
  have hc := Lib.hid (index2_any vD vH vS v x xs ok w hD h1 g hg)
  clear hD h1 hg
  go_enter Tryz.func29, Tryz.ntmps29
  go_wp2_with (go_at_call 54; refine hc.out.mono ?_; rintro e w' ⟨rfl, hb⟩; have hb' := Lib.hid hb; clear hb)
  go_ret
  exact ⟨ret_bool hx.out, hb'.out⟩

set_option maxRecDepth 100000 in
theorem index3_any (vD vH vS v : Value) (x : Ins) (xs : List Sft) (ok : Nat → Prop) (w : World) (hD : Sl kRow w ok vD x.doms) (h1 : Sl kSft w ok v xs) (g : Nat) (hg : w.heap[g]? = some (.cells #[vD, vH, vS] 26 (0, 0))) :
    Calls Tryz.prog 58 #[v, .func (.func 33) #[] #[.pointer (some ⟨g, 0, none⟩)]] w fun e w' => e = .returned (.int .i64 (findFrom (fun c => !softB x c) 0 xs)) ∧ Below w.heap.size w w' := by
  have H1 := h1
  have HD := hD
  have HG := Lib.hid hg
  obtain ⟨A, c, rfl, hc, hm, hA⟩ := h1
  clear hA hD hg
  go_enter Tryz.func58, Tryz.ntmps58
  go_wp2
  go_loopw [8] (fun i wr => ∃ k : Nat, i = .int .i64 k ∧ k ≤ xs.length ∧ Hid (findFrom (fun c => !softB x c) 0 xs = findFrom (fun c => !softB x c) k (xs.drop k)) ∧ Hid (Below w.heap.size w wr)) (fun i _ => xs.length - (intOf i).toNat)
  case atStart => exact ⟨0, rfl, by omega, Lib.hid rfl, Lib.hid (Below.refl _ _)⟩
  case round =>
    obtain ⟨k, rfl, hk, H, HB⟩ := hrel
    by_cases hlt : k < xs.length
    · obtain ⟨b, o, cs, rfl, _, hK, hcell⟩ := (Sl.elems (H1.below (by decide) HB.out)) k (nth default xs k) (nth_get default xs k hlt)
      obtain ⟨vs, vr, vc, rfl, e1, e2, e3⟩ := kSft_cells hK
      have f0 := hcell 0 _ rfl
      have f1 := hcell 1 _ rfl
      have f2 := hcell 2 _ rfl
      have f3 := hcell 3 _ rfl
      simp only [show kSft.sz = 4 from rfl, Nat.add_zero, ← Nat.add_assoc] at f0 f1 f2 f3
      clear hcell hK
      have H' := Lib.hid (findFrom_drop (fun c => !softB x c) default xs k hlt)
      have HD' := HD.below (by decide) HB.out
      have HG' := Lib.hid (block_kept HB.out HG.out)
      clear H1 HD HG
      cases hs : softB x (nth default xs k)
      · go_wp2_with (go_at_call 33; refine (right3_any _ vH vS _ _ _ x _ ok _ HD' e1 e2 e3 g HG'.out).mono ?_; rintro e w' ⟨rfl, hb⟩; have hb' := Lib.hid hb; clear hb)
        go_ret
        exact ⟨ret_int (by rw [H.out, H'.out, hs]; simp), below_next HB.out hb'.out⟩
      · go_wp2_with (go_at_call 33; refine (right3_any _ vH vS _ _ _ x _ ok _ HD' e1 e2 e3 g HG'.out).mono ?_; rintro e w' ⟨rfl, hb⟩; have hb' := Lib.hid hb; clear hb)
        go_roundw
        case rel => exact ⟨k + 1, by go_num, by omega, Lib.hid (by rw [H.out, H'.out, hs]; simp), Lib.hid (below_next HB.out hb'.out)⟩
        case measure => simp [intOf]; omega
    · go_wp2
      go_ret
      refine ⟨ret_int ?_, HB.out⟩
      rw [H.out, List.drop_eq_nil_of_le (by omega)]; rfl
theorem contains3_any (vD vH vS v : Value) (x : Ins) (xs : List Sft) (ok : Nat → Prop) (w : World) (hD : Sl kRow w ok vD x.doms) (h1 : Sl kSft w ok v xs) (g : Nat) (hg : w.heap[g]? = some (.cells #[vD, vH, vS] 26 (0, 0))) :
    Calls Tryz.prog 32 #[v, .func (.func 33) #[] #[.pointer (some ⟨g, 0, none⟩)]] w fun e w' => e = .returned (.bool (xs.any (fun c => !softB x c))) ∧ Below w.heap.size w w' := by
  have hx := Lib.hid (findFrom_ge (fun c => !softB x c) xs 0)
  have hc := Lib.hid (index3_any vD vH vS v x xs ok w hD h1 g hg)
  clear hD h1 hg
  go_enter Tryz.func32, Tryz.ntmps32
  go_wp2_with (go_at_call 58; refine hc.out.mono ?_; rintro e w' ⟨rfl, hb⟩; have hb' := Lib.hid hb; clear hb)
  go_ret
  exact ⟨ret_bool hx.out, hb'.out⟩

set_option maxRecDepth 100000 in
theorem right_any (vD vH vS : Value) (x : Ins) (ok : Nat → Prop) (w : World) (hD : Sl kRow w ok vD x.doms) (hH : Sl kCon w ok vH x.hard) (hS : Sl kSft w ok vS x.soft) :
    Calls Tryz.prog 14 #[.agg #[vD, vH, vS]] w fun e w' => e = .returned (.bool (rightB x)) ∧ Below w.heap.size w w' := by
  obtain ⟨AD, cD, rfl, hcD, hmD, hAD⟩ := hD
  obtain ⟨AH, cH, rfl, hcH, hmH, hAH⟩ := hH
  obtain ⟨AS, cS, rfl, hcS, hmS, hAS⟩ := hS
  have HB := Lib.hid (below_alloc1 w (.cells #[.slice AD x.doms.length cD, .slice AH x.hard.length cH, .slice AS x.soft.length cS] 26))
  have HD := Sl.below (v := .slice AD x.doms.length cD) (xs := x.doms) (by decide) ⟨AD, cD, rfl, hcD, hmD, hAD⟩ HB.out
  have HH := Sl.below (v := .slice AH x.hard.length cH) (xs := x.hard) (by decide) ⟨AH, cH, rfl, hcH, hmH, hAH⟩ HB.out
  have HS := Sl.below (v := .slice AS x.soft.length cS) (xs := x.soft) (by decide) ⟨AS, cS, rfl, hcS, hmS, hAS⟩ HB.out
  have hg : (w.alloc (.cells #[.slice AD x.doms.length cD, .slice AH x.hard.length cH, .slice AS x.soft.length cS] 26)).heap[w.heap.size]? = some (.cells #[.slice AD x.doms.length cD, .slice AH x.hard.length cH, .slice AS x.soft.length cS] 26 (0, 0)) := heap_alloc_new w _
  have HG := Lib.hid hg
  clear hg hAD hAH hAS
  obtain ⟨q1, hq1⟩ : ∃ q, (x.doms.any fun d => !domainB d) = q := ⟨_, rfl⟩
  obtain ⟨q2, hq2⟩ : ∃ q, (x.hard.any fun c => !hardB x c) = q := ⟨_, rfl⟩
  obtain ⟨q3, hq3⟩ : ∃ q, (x.soft.any fun c => !softB x c) = q := ⟨_, rfl⟩
  have hr : Hid (rightB x = (decide (x.doms.length ≤ 40) && decide (x.hard.length ≤ 200) && decide (x.soft.length ≤ 200) && !q1 && !q2 && !q3)) := by
    apply Lib.hid
    unfold rightB
    rw [List.all_eq_not_any_not, List.all_eq_not_any_not, List.all_eq_not_any_not, hq1, hq2, hq3]
  have hc1 := Lib.hid (contains1_any _ _ ok _ HD)
  rw [hq1] at hc1
  have hc2 := fun W (hb : Below _ _ W) => contains2_any _ _ _ _ x x.hard ok W (HD.below (by decide) hb) (HH.below (by decide) hb) _ (block_kept hb HG.out)
  have hc3 := fun W (hb : Below _ _ W) => contains3_any _ _ _ _ x x.soft ok W (HD.below (by decide) hb) (HS.below (by decide) hb) _ (block_kept hb HG.out)
  rw [hq2] at hc2
  rw [hq3] at hc3
  have Hc2 := Lib.hid hc2
  have Hc3 := Lib.hid hc3
  clear hc2 hc3 hq1 hq2 hq3 HD HH HS
  go_enter Tryz.func14, Tryz.ntmps14
  go_wp2_with (first
    | (go_at_call 26; refine hc1.out.mono ?_; rintro e w' ⟨rfl, hb⟩; (obtain ⟨hc, hb1⟩ : (∀ b o, _ → _) ∧ Hid _ := ⟨bcell hb, Lib.hid hb⟩); clear hb)
    | (go_at_call 29; refine (Hc2.out _ hb1.out).mono ?_; rintro e w' ⟨rfl, hb⟩; (obtain ⟨hc', hb2⟩ : (∀ b o, _ → _) ∧ Hid _ := ⟨bcell (below_next hb1.out hb), Lib.hid (below_next hb1.out hb)⟩); clear hb hc hb1)
    | (go_at_call 32; refine (Hc3.out _ hb2.out).mono ?_; rintro e w' ⟨rfl, hb⟩; (obtain ⟨hc, hb1⟩ : (∀ b o, _ → _) ∧ Hid _ := ⟨bcell (below_next hb2.out hb), Lib.hid (below_next hb2.out hb)⟩); clear hb hc' hb2))
  all_goals go_ret
  all_goals refine ⟨ret_bool ?_, by first | exact below_next HB.out hb1.out | exact below_next HB.out hb2.out | exact HB.out⟩
  all_goals rw [hr.out]
  all_goals try (simp [*]; done)
  all_goals by_cases e1 : x.doms.length ≤ 40
  all_goals by_cases e2 : x.hard.length ≤ 200
  all_goals by_cases e3 : x.soft.length ≤ 200
  all_goals try (exfalso; omega)
  all_goals try (simp [*]; done)
  all_goals go_ways
end Go.Proofs.YtoahaigfjfeopaaGreatDoor
