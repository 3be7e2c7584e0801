/- Where a word stands in a row of words; slices.Index over the rows of words. -/
import Derived.Test.YtoahaigfjfeopaaGreatDoorWz
import Derived.Test.YtoahaigfjfeopaaGreatDoorWh
namespace Go.Proofs.YtoahaigfjfeopaaGreatDoor
open Go.RowKit

theorem idx_word (s : List UInt8) : ∀ (ws : List (List UInt8)) (i : Nat), Lib.idxFromS (ws.map fun l => (⟨l.toArray⟩ : ByteArray)) ⟨s.toArray⟩ i = wordFrom s i ws
  | [], _ => rfl
  | a :: r, i => by
    rw [List.map_cons, Lib.idxFromS, wordFrom, idx_word s r (i + 1)]
    by_cases h : a = s
    · subst h; simp
    · rw [if_neg h, if_neg]
      intro e
      have := congrArg (fun b : ByteArray => b.data.toList) e
      simp at this
      exact h this
theorem words_index (s : List UInt8) (ws : List (List UInt8)) (g : Nat) (w : World) {t : TypeId} {fr : Nat × Nat} (hg : w.heap[g]? = some (.cells (ws.map fun l => Value.string ⟨l.toArray⟩).toArray t fr)) (hl : ws.length ≤ 1000) (c : Nat) :
    Calls Tryz.prog 70 #[.slice (some ⟨g, 0, none⟩) ws.length c, .string ⟨s.toArray⟩] w fun e w' => e = .returned (.int .i64 (wordFrom s 0 ws)) ∧ w' = w := by
  have := Tryz.slices_Index_string g 0 ws.length c (ws.map fun l => (⟨l.toArray⟩ : ByteArray)) ⟨s.toArray⟩ w (by simp) (by omega) (fun j hj => by
    rw [Nat.zero_add]
    simp at hj
    exact cell_at hg (by simp [hj]))
  rw [List.take_of_length_le (by simp)] at this
  rw [← idx_word s ws 0]
  exact this
theorem wordFrom_lo (s : List UInt8) : ∀ (ws : List (List UInt8)) (i : Nat), wordFrom s i ws = -1 ∨ (i ≤ wordFrom s i ws ∧ wordFrom s i ws < i + ws.length)
  | [], _ => .inl rfl
  | a :: r, i => by
    rw [wordFrom]
    split
    · right; simp; omega
    · rcases wordFrom_lo s r (i + 1) with h | h
      · exact .inl h
      · right; simp; omega
end Go.Proofs.YtoahaigfjfeopaaGreatDoor
