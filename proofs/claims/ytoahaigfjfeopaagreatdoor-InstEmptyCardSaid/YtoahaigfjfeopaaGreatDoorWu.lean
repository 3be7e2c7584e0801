/- Which blocks may have changed: the frame for the parser's methods. -/
import Derived.Test.YtoahaigfjfeopaaGreatDoorWt
namespace Go.Proofs.YtoahaigfjfeopaaGreatDoor
open Go.RowKit

/-- Only blocks in S, and new ones, may have changed. -/
structure Chg (S : Nat → Prop) (w w1 : World) : Prop where
  os : w1.os = w.os
  tape : w1.tape = w.tape
  output : w1.output = w.output
  size : w.heap.size ≤ w1.heap.size
  block : ∀ k, k < w.heap.size → ¬ S k → w1.heap[k]? = w.heap[k]?
theorem Chg.refl (S : Nat → Prop) (w : World) : Chg S w w := ⟨rfl, rfl, rfl, Nat.le_refl _, fun _ _ _ => rfl⟩
theorem Chg.trans {S T : Nat → Prop} {a b c : World} (h : Chg S a b) (k : Chg T b c) (hs : ∀ j, j < a.heap.size → T j → S j) : Chg S a c :=
  ⟨k.os.trans h.os, k.tape.trans h.tape, k.output.trans h.output, Nat.le_trans h.size k.size,
    fun j hj hn => (k.block j (Nat.lt_of_lt_of_le hj h.size) (fun ht => hn (hs j hj ht))).trans (h.block j hj hn)⟩
theorem Chg.mono {S T : Nat → Prop} {a b : World} (h : Chg S a b) (hs : ∀ j, j < a.heap.size → S j → T j) : Chg T a b :=
  ⟨h.os, h.tape, h.output, h.size, fun j hj hn => h.block j hj (fun hs' => hn (hs j hj hs'))⟩
theorem chg_of_grown {a b : World} {row : Option Nat} (h : a.grownBy b row) : Chg (fun k => row = some k) a b :=
  ⟨h.os, h.tape, h.output, h.size, fun j hj hn => h.block j hj (fun e => hn e.symm)⟩
theorem chg_of_below {a b : World} (h : Below a.heap.size a b) (S : Nat → Prop) : Chg S a b := ⟨h.os, h.tape, h.output, h.size, fun j hj _ => h.block j hj⟩
theorem Chg.below {S : Nat → Prop} {a b : World} {B : Nat} (h : Chg S a b) (hs : ∀ k, k < B → ¬ S k) (hB : B ≤ a.heap.size) : Below B a b :=
  ⟨h.os, h.tape, h.output, h.size, fun j hj => h.block j (Nat.lt_of_lt_of_le hj hB) (hs j hj)⟩
theorem Chg.heap {S : Nat → Prop} {a b : World} (h : Chg S a b) {k : Nat} {o : Obj} (hk : a.heap[k]? = some o) (hn : ¬ S k) : b.heap[k]? = some o :=
  (h.block k (Array.getElem?_eq_some_iff.1 hk).1 hn).trans hk
theorem Sl.chg {α : Type} {d : Kd α} {S : Nat → Prop} {a b : World} {ok : Nat → Prop} {v : Value} {xs : List α} (hz : 0 < d.sz) (h : Sl d a ok v xs) (hc : Chg S a b) (hs : ∀ k, ok k → ¬ S k) : Sl d b ok v xs :=
  (h.move hz fun k hk hl => hc.block k hl (hs k hk)).mono fun _ h => h.1
theorem PB.chg {g : Nat} {a b : World} {ts : List Tok} {dv hv sv : Value} {S : Nat → Prop} (h : PB g a ts dv hv sv) (hc : Chg S a b) (hs : ∀ k, k ≤ g → ¬ S k) : PB g b ts dv hv sv := by
  obtain ⟨A, n, c, h, hsl⟩ := h
  exact ⟨A, n, c, hc.heap h (hs g (Nat.le_refl _)), hsl.chg (by decide) hc fun k hk => hs k (Nat.le_of_lt hk)⟩
/-- A row of numbers of the call's own. -/
def OwnI (base : Nat) (v : Value) (xs : List Int) (w : World) : Prop := w.ownsRow base 3 1 v xs.length (xs.map (Value.int .i64))
theorem OwnI.sl {base : Nat} {v : Value} {xs : List Int} {w : World} (h : OwnI base v xs w) (hl : xs.length ≤ 140737488355328) : Sl (Kd.int .i64) w (base ≤ ·) v xs := by
  rcases h.2 with ⟨rfl, h0⟩ | ⟨g, cap, cur, rfl, hb, hg, hnc, hcm, hcs, ht⟩
  · obtain rfl : xs = [] := List.eq_nil_of_length_eq_zero h0
    exact sl_nil _ _
  · refine ⟨_, cap, rfl, hnc, hl, fun j x hj => ⟨g, 0, [.int .i64 x], rfl, hb, rfl, fun i u hu => ?_⟩⟩
    obtain rfl : i = 0 := by have := (List.getElem?_eq_some_iff.1 hu).1; simpa using this
    have hc := h.cells (g := g) rfl j (.int .i64 x) (by rw [List.getElem?_map, hj]; rfl)
    have e : (⟨g, 0, none⟩ : Addr).add j = ⟨g, 0 + j, none⟩ := by unfold Addr.add; split <;> simp_all
    rw [e] at hc
    simp at hu; subst hu
    show w.cell? ⟨g, 0 + (j * 1 + 0), none⟩ = _
    rw [Nat.mul_one, Nat.add_zero]
    exact hc
theorem OwnI.chg {base : Nat} {S : Nat → Prop} {v : Value} {xs : List Int} {a b : World} (h : OwnI base v xs a) (hc : Chg S a b) (hs : ∀ k, v.ownBlock = some k → ¬ S k) : OwnI base v xs b := by
  obtain ⟨h1, h2⟩ := h
  refine ⟨by first | exact Nat.le_trans h1 hc.size | exact h1, ?_⟩
  rcases h2 with ⟨rfl, h0⟩ | ⟨g, cap, cur, rfl, hb, hg, r⟩
  · exact .inl ⟨rfl, h0⟩
  · exact .inr ⟨g, cap, cur, rfl, hb, by first | exact hc.heap hg (hs g rfl) | exact (hc.block g (Array.getElem?_eq_some_iff.1 hg).1 (hs g rfl)).trans hg, r⟩
end Go.Proofs.YtoahaigfjfeopaaGreatDoor
