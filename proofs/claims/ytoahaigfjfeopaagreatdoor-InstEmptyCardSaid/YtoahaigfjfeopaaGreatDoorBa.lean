/- What memory holds: readable data, rows of the call's own, and how they outlive later writes. Plain lemmas over the model; no program. -/
import Derived.Below
import Derived.Deep.Draws
import Derived.Maps.AppendAt
import Derived.OwnWalk
import Derived.WalkKit
import Derived.Laws.MakeOwn
import Derived.Laws.OwnMore
import Derived.KernelRfl
import Derived.Test.YtoahaigfjfeopaaGreatDoorPa
namespace Go.Proofs.YtoahaigfjfeopaaGreatDoor
open Go.RowKit

theorem ret_int {k : IntKind} {a b : Int} (h : a = b) : Ending.returned (.int k a) = .returned (.int k b) := by rw [h]
theorem ret_bool {a b : Bool} (h : a = b) : Ending.returned (.bool a) = .returned (.bool b) := by rw [h]
theorem ret_str {a b : ByteArray} (h : a = b) : Ending.returned (.string a) = .returned (.string b) := by rw [h]
/-- A kind of data: how many cells a value has, and what they say; 'ok': the blocks in which the value's inner rows may lie. -/
structure Kd (α : Type) where
  sz : Nat
  K : World → (Nat → Prop) → α → List Value → Prop
  len : ∀ {w ok x cs}, K w ok x cs → cs.length = sz
  one : ∀ {w ok x cs}, K w ok x cs → ∀ u ∈ cs, u.oneCell' = true
  mono : ∀ {w} {ok ok' : Nat → Prop} {x cs}, (∀ k, ok k → ok' k) → K w ok x cs → K w ok' x cs
  move : ∀ {w w1 : World} {ok x cs}, (∀ k, ok k → k < w.heap.size → w1.heap[k]? = w.heap[k]?) → K w ok x cs → K w1 (fun k => ok k ∧ k < w.heap.size) x cs

/-- The elements of a row that can be read. -/
def Elems {α : Type} (d : Kd α) (w : World) (ok : Nat → Prop) (A : Option Addr) (xs : List α) : Prop :=
  ∀ j x, xs[j]? = some x → ∃ b o cs, A = some ⟨b, o, none⟩ ∧ ok b ∧ d.K w ok x cs ∧ ∀ i u, cs[i]? = some u → w.cell? ⟨b, o + (j * d.sz + i), none⟩ = some u

/-- A slice that can be read. -/
def Sl {α : Type} (d : Kd α) (w : World) (ok : Nat → Prop) (v : Value) (xs : List α) : Prop :=
  ∃ A c, v = .slice A xs.length c ∧ xs.length ≤ c ∧ xs.length ≤ 140737488355328 ∧ Elems d w ok A xs

theorem Elems.mono {α : Type} {d : Kd α} {w : World} {ok ok' : Nat → Prop} {A : Option Addr} {xs : List α} (hk : ∀ k, ok k → ok' k) (h : Elems d w ok A xs) : Elems d w ok' A xs := by
  intro j x hx
  obtain ⟨b, o, cs, h1, h2, h3, h4⟩ := h j x hx
  exact ⟨b, o, cs, h1, hk b h2, d.mono hk h3, h4⟩
theorem lt_of_cell {w : World} {a : Addr} {u : Value} (h : w.cell? a = some u) : a.block < w.heap.size := World.block_lt_of_cell? w a h
theorem Elems.move {α : Type} {d : Kd α} {w w1 : World} {ok : Nat → Prop} {A : Option Addr} {xs : List α} (hs : 0 < d.sz) (hm : ∀ k, ok k → k < w.heap.size → w1.heap[k]? = w.heap[k]?) (h : Elems d w ok A xs) : Elems d w1 (fun k => ok k ∧ k < w.heap.size) A xs := by
  intro j x hx
  obtain ⟨b, o, cs, h1, h2, h3, h4⟩ := h j x hx
  have hl := d.len h3
  have hb : b < w.heap.size := lt_of_cell (h4 0 _ (List.getElem?_eq_getElem (show 0 < cs.length by omega)))
  refine ⟨b, o, cs, h1, ⟨h2, hb⟩, d.move hm h3, fun i u hu => ?_⟩
  exact (World.cell?_of_block (w := w) (hm b h2 hb)).trans (h4 i u hu)
theorem Sl.mono {α : Type} {d : Kd α} {w : World} {ok ok' : Nat → Prop} {v : Value} {xs : List α} (hk : ∀ k, ok k → ok' k) (h : Sl d w ok v xs) : Sl d w ok' v xs := by
  obtain ⟨A, c, h1, h2, h3, h4⟩ := h
  exact ⟨A, c, h1, h2, h3, h4.mono hk⟩
theorem Sl.move {α : Type} {d : Kd α} {w w1 : World} {ok : Nat → Prop} {v : Value} {xs : List α} (hs : 0 < d.sz) (hm : ∀ k, ok k → k < w.heap.size → w1.heap[k]? = w.heap[k]?) (h : Sl d w ok v xs) : Sl d w1 (fun k => ok k ∧ k < w.heap.size) v xs := by
  obtain ⟨A, c, h1, h2, h3, h4⟩ := h
  exact ⟨A, c, h1, h2, h3, h4.move hs hm⟩
theorem Sl.elems {α : Type} {d : Kd α} {w : World} {ok : Nat → Prop} {A : Option Addr} {n c : Nat} {xs : List α} (h : Sl d w ok (.slice A n c) xs) : Elems d w ok A xs := by
  obtain ⟨_, _, he, _, _, hA⟩ := h
  injection he with he1 _ _
  rw [he1]; exact hA
/-- The usual mover: all that was there stands. -/
theorem Sl.below {α : Type} {d : Kd α} {w w1 : World} {ok : Nat → Prop} {v : Value} {xs : List α} (hs : 0 < d.sz) (h : Sl d w ok v xs) (hb : Below w.heap.size w w1) : Sl d w1 ok v xs :=
  (h.move hs fun k _ hk => hb.block k hk).mono fun _ h => h.1
theorem Kd.below {α : Type} (d : Kd α) {w w1 : World} {ok : Nat → Prop} {x : α} {cs : List Value} (h : d.K w ok x cs) (hb : Below w.heap.size w w1) : d.K w1 ok x cs :=
  d.mono (fun _ h => h.1) (d.move (fun k _ hk => hb.block k hk) h)

/-! ### The kinds -/
namespace Kd
def scalar {α : Type} (enc : α → Value) (h1 : ∀ x, (enc x).oneCell' = true) : Kd α where
  sz := 1
  K := fun _ _ x cs => cs = [enc x]
  len := fun h => by rw [h]; rfl
  one := fun h u hu => by rw [h] at hu; rw [List.mem_singleton.1 hu]; exact h1 _
  mono := fun _ h => h
  move := fun _ h => h
def int (k : IntKind) : Kd Int := scalar (Value.int k) (fun _ => rfl)
def str : Kd ByteArray := scalar Value.string (fun _ => rfl)
def bool : Kd Bool := scalar Value.bool (fun _ => rfl)
def slice {α : Type} (d : Kd α) (hs : 0 < d.sz) : Kd (List α) where
  sz := 1
  K := fun w ok xs cs => ∃ v, cs = [v] ∧ Sl d w ok v xs
  len := fun ⟨_, h, _⟩ => by rw [h]; rfl
  one := fun ⟨_, h, A, c, h1, _⟩ u hu => by rw [h] at hu; rw [List.mem_singleton.1 hu, h1]; rfl
  mono := fun hk ⟨v, h, h1⟩ => ⟨v, h, h1.mono hk⟩
  move := fun hm ⟨v, h, h1⟩ => ⟨v, h, h1.move hs hm⟩
def pair {α β : Type} (a : Kd α) (b : Kd β) : Kd (α × β) where
  sz := a.sz + b.sz
  K := fun w ok x cs => ∃ c0 c1, cs = c0 ++ c1 ∧ a.K w ok x.1 c0 ∧ b.K w ok x.2 c1
  len := fun ⟨c0, c1, h, h0, h1⟩ => by rw [h, List.length_append, a.len h0, b.len h1]
  one := fun ⟨c0, c1, h, h0, h1⟩ u hu => by
    rw [h] at hu
    rcases List.mem_append.1 hu with hu | hu
    · exact a.one h0 u hu
    · exact b.one h1 u hu
  mono := fun hk ⟨c0, c1, h, h0, h1⟩ => ⟨c0, c1, h, a.mono hk h0, b.mono hk h1⟩
  move := fun hm ⟨c0, c1, h, h0, h1⟩ => ⟨c0, c1, h, a.move hm h0, b.move hm h1⟩
def iso {α β : Type} (d : Kd α) (f : β → α) : Kd β where
  sz := d.sz
  K := fun w ok x cs => d.K w ok (f x) cs
  len := d.len
  one := d.one
  mono := d.mono
  move := d.move
end Kd

/-! ### Elements that are read -/
theorem Sl.at_ {α : Type} {d : Kd α} {w : World} {ok : Nat → Prop} {A : Option Addr} {xs : List α} (h : Elems d w ok A xs) {j : Nat} {x : α} (hx : xs[j]? = some x) :
    ∃ b o cs, A = some ⟨b, o, none⟩ ∧ ok b ∧ d.K w ok x cs ∧ ∀ i u, cs[i]? = some u → w.cell? ⟨b, o + (j * d.sz + i), none⟩ = some u := h j x hx
/-- One cell an element. -/
theorem Elems.cell {α : Type} {enc : α → Value} {h1 : ∀ x, (enc x).oneCell' = true} {w : World} {ok : Nat → Prop} {A : Option Addr} {xs : List α} (h : Elems (Kd.scalar enc h1) w ok A xs) {j : Nat} {x : α} (hx : xs[j]? = some x) :
    ∃ b o, A = some ⟨b, o, none⟩ ∧ w.cell? ⟨b, o + j, none⟩ = some (enc x) := by
  obtain ⟨b, o, cs, hA, _, hk, hc⟩ := h j x hx
  refine ⟨b, o, hA, ?_⟩
  have hk' : cs = [enc x] := hk
  have := hc 0 (enc x) (by rw [hk']; rfl)
  simpa [Kd.scalar] using this
theorem Elems.num {k : IntKind} {w : World} {ok : Nat → Prop} {A : Option Addr} {xs : List Int} (h : Elems (Kd.int k) w ok A xs) {j : Nat} (hj : j < xs.length) :
    ∃ b o, A = some ⟨b, o, none⟩ ∧ w.cell? ⟨b, o + j, none⟩ = some (.int k (nth 0 xs j)) := by
  have := Elems.cell (enc := Value.int k) h (j := j) (x := nth 0 xs j) (nth_get 0 xs j hj)
  exact this
/-- A slice in each cell. -/
theorem Elems.row {α : Type} {d : Kd α} {hs : 0 < d.sz} {w : World} {ok : Nat → Prop} {A : Option Addr} {xs : List (List α)} (h : Elems (Kd.slice d hs) w ok A xs) {j : Nat} (hj : j < xs.length) :
    ∃ b o v, A = some ⟨b, o, none⟩ ∧ w.cell? ⟨b, o + j, none⟩ = some v ∧ Sl d w ok v (nth [] xs j) := by
  obtain ⟨b, o, cs, hA, _, ⟨v, hv, hk⟩, hc⟩ := h j (nth [] xs j) (nth_get [] xs j hj)
  refine ⟨b, o, v, hA, ?_, hk⟩
  have := hc 0 v (by rw [hv]; rfl)
  simpa [Kd.slice] using this

end Go.Proofs.YtoahaigfjfeopaaGreatDoor
