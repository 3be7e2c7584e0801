/- inst.parser: must, more, next. -/
import Derived.Test.YtoahaigfjfeopaaGreatDoorWq
import Derived.WalkSmall
namespace Go.Proofs.YtoahaigfjfeopaaGreatDoor
open Go.RowKit

/-- How an error ends the reading of an instance: a panic that Parse recovers. -/
abbrev wrongs (p x : Int) : Ending := .panicked [{ v := .iface 78 (.agg #[.int .i64 p, .int .i64 x]), recovered := false }]

theorem must_ok (tk tn ta x : Int) (tb : ByteArray) (w : World) : Calls Tryz.prog 71 #[.bool true, .agg #[.int .i64 tk, .string tb, .int .i64 tn, .int .i64 ta], .int .i64 x] w fun e w' => e = .returned (.tuple #[]) ∧ Below w.heap.size w w' := by
  go_enter Tryz.func71, Tryz.ntmps71
  go_wp2
  all_goals go_end0
  all_goals exact ⟨rfl, below_alloc1 _ _⟩
theorem must_bad (tk tn ta x : Int) (tb : ByteArray) (w : World) : Calls Tryz.prog 71 #[.bool false, .agg #[.int .i64 tk, .string tb, .int .i64 tn, .int .i64 ta], .int .i64 x] w fun e w' => e = wrongs ta x ∧ Below w.heap.size w w' := by
  go_enter Tryz.func71, Tryz.ntmps71
  go_wp2
  all_goals exact ⟨rfl, rfl, below_alloc1 _ _⟩

/-- The parser's block: what is still to be read, and what is told so far. -/
def PB (g : Nat) (w : World) (ts : List Tok) (dv hv sv : Value) : Prop :=
  ∃ A n c, w.heap[g]? = some (.cells #[.slice A n c, dv, hv, sv] 81 (0, 0)) ∧ Sl kTok w (· < g) (.slice A n c) ts

theorem tok_head {w : World} {ok : Nat → Prop} {A : Option Addr} {n c : Nat} {t : Tok} {r : List Tok} (h : Sl kTok w ok (.slice A n c) (t :: r)) :
    ∃ b o, A = some ⟨b, o, none⟩ ∧ ok b ∧ n = r.length + 1 ∧ n ≤ c ∧ n ≤ 140737488355328 ∧ w.cell? ⟨b, o, none⟩ = some (.int .i64 t.kind) ∧ w.cell? ⟨b, o + 1, none⟩ = some (.string ⟨t.text.toArray⟩) ∧ w.cell? ⟨b, o + 2, none⟩ = some (.int .i64 t.n) ∧ w.cell? ⟨b, o + 3, none⟩ = some (.int .i64 t.at_) := by
  obtain ⟨A', c', he, hc, hm, hA⟩ := h
  injection he with h1 h2 h3
  subst h1 h2 h3
  obtain ⟨b, o, cs, rfl, hb, hk, hcs⟩ := hA 0 t rfl
  obtain ⟨_, _, rfl, rfl, ⟨_, _, rfl, rfl, ⟨_, _, rfl, rfl, rfl⟩⟩⟩ := hk
  refine ⟨b, o, rfl, hb, rfl, hc, hm, ?_, ?_, ?_, ?_⟩
  · exact hcs 0 _ rfl
  · exact hcs 1 _ rfl
  · exact hcs 2 _ rfl
  · exact hcs 3 _ rfl
theorem tok_tail {w : World} {ok : Nat → Prop} {b o n c : Nat} {t : Tok} {r : List Tok} (h : Sl kTok w ok (.slice (some ⟨b, o, none⟩) n c) (t :: r)) :
    Sl kTok w ok (.slice (some ⟨b, o + 4, none⟩) (n - 1) (c - 1)) r := by
  obtain ⟨A', c', he, hc, hm, hA⟩ := h
  injection he with h1 h2 h3
  subst h1 h2 h3
  refine ⟨_, _, rfl, by simp at hc; omega, by simp at hm; omega, fun j x hj => ?_⟩
  obtain ⟨b', o', cs, he, hb, hk, hcs⟩ := hA (j + 1) x (by simpa using hj)
  injection he with he
  injection he with he1 he2
  subst he1 he2
  refine ⟨b, o + 4, cs, rfl, hb, hk, fun i u hu => ?_⟩
  have := hcs i u hu
  rw [show o + 4 + (j * kTok.sz + i) = o + ((j + 1) * kTok.sz + i) by show o + 4 + (j * 4 + i) = o + ((j + 1) * 4 + i); omega]
  exact this
theorem PB.lt {g : Nat} {w : World} {ts : List Tok} {dv hv sv : Value} (h : PB g w ts dv hv sv) : g < w.heap.size := by
  obtain ⟨A, n, c, h, _⟩ := h; exact lt_of_block h
theorem PB.kept {g : Nat} {w w1 : World} {ts : List Tok} {dv hv sv : Value} (h : PB g w ts dv hv sv) (hb : Below (g + 1) w w1) : PB g w1 ts dv hv sv := by
  obtain ⟨A, n, c, h, hs⟩ := h
  exact ⟨A, n, c, (hb.block g (Nat.lt_succ_self g)).trans h, (hs.move (by decide) (fun k hk _ => hb.block k (by omega))).mono fun _ h => h.1⟩

theorem sl_nil {α : Type} {d : Kd α} {w : World} {ok : Nat → Prop} (A : Option Addr) (c : Nat) : Sl d w ok (.slice A 0 c) [] :=
  ⟨A, c, rfl, Nat.zero_le _, by simp, fun j x hj => by simp at hj⟩
theorem heap_set0 {W : World} {g : Nat} {a b c d : Value} {t : TypeId} (h : W.heap[g]? = some (.cells #[a, b, c, d] t (0, 0))) (x : Value) : (W.setCell ⟨g, 0, none⟩ x).heap[g]? = some (.cells #[x, b, c, d] t (0, 0)) := by
  simp [World.setCell, Array.getElem?_modify, h]
/-- What is behind a growth by another block. -/
theorem PB.grown {g : Nat} {w w1 : World} {ts : List Tok} {dv hv sv : Value} {row : Option Nat} (h : PB g w ts dv hv sv) (hg : w.grownBy w1 row) (hr : ∀ k, row = some k → g < k) : PB g w1 ts dv hv sv := by
  have hl := h.lt
  have hk : ∀ k, k ≤ g → w1.heap[k]? = w.heap[k]? := fun k hk => hg.block k (by omega) (fun e => by have := hr k e.symm; omega)
  obtain ⟨A, n, c, h, hs⟩ := h
  exact ⟨A, n, c, (hk g (Nat.le_refl _)).trans h, (hs.move (by decide) (fun k hk' _ => hk k (by have : k < g := hk'; omega))).mono fun _ h => h.1⟩
theorem PB.set {g : Nat} {w : World} {ts ts' : List Tok} {dv hv sv : Value} (h : PB g w ts dv hv sv) {A : Option Addr} {n c : Nat} (hs : Sl kTok w (· < g) (.slice A n c) ts') : PB g (w.setCell ⟨g, 0, none⟩ (.slice A n c)) ts' dv hv sv := by
  obtain ⟨A', n', c', h, _⟩ := h
  exact ⟨A, n, c, heap_set0 h _, (hs.move (by decide) (fun k hk _ => Go.Deep.blk_setCell_other _ _ _ _ (by have : k < g := hk; simp; omega))).mono fun _ h => h.1⟩

theorem more_any (g : Nat) (w : World) (t : Tok) (r : List Tok) (dv hv sv : Value) (h : PB g w (t :: r) dv hv sv) :
    Calls Tryz.prog 100 #[.pointer (some ⟨g, 0, none⟩)] w fun e w' => e = .returned (.bool (t.kind == 2)) ∧ w' = w := by
  obtain ⟨A, n, c, hg, hs⟩ := h
  obtain ⟨b, o, rfl, hb, hn, hnc, hmc, c0, c1, c2, c3⟩ := tok_head hs
  have g0 := cell_at hg (i := 0) rfl
  have hn0 : 0 < n := by omega
  clear hs hg hn
  go_enter Tryz.func100, Tryz.ntmps100
  go_wp2
  all_goals go_ret
  all_goals exact ⟨rfl, rfl⟩

theorem next_any (g : Nat) (w : World) (t : Tok) (r : List Tok) (dv hv sv : Value) (h : PB g w (t :: r) dv hv sv) :
    Calls Tryz.prog 69 #[.pointer (some ⟨g, 0, none⟩)] w fun e w' => e = .returned (.agg (tokC t).toArray) ∧ PB g w' (if t.kind = 4 then t :: r else r) dv hv sv ∧ w.grownBy w' (some g) := by
  have hgw := h.lt
  have H := Lib.hid h
  obtain ⟨A, n, c, hg, hs⟩ := h
  obtain ⟨b, o, rfl, hb, hn, hnc, hmc, c0, c1, c2, c3⟩ := tok_head hs
  have ht := Lib.hid (tok_tail hs)
  have g0 := cell_at hg (i := 0) rfl
  have f0 := Lib.frozen_of_heap hg 0
  have hn0 : 0 < n := by omega
  have hbw : b < w.heap.size := by omega
  have hbg : ¬ b = g := by omega
  have hT : Hid (tokC t = [.int .i64 t.kind, .string ⟨t.text.toArray⟩, .int .i64 t.n, .int .i64 t.at_]) := Lib.hid rfl
  generalize (ByteArray.mk t.text.toArray) = tb at c1 hT
  have HG := Lib.hid hg
  have HN := Lib.hid hn
  clear hs hg hn
  by_cases h4 : t.kind = 4
  · have h4' : (t.kind != 4) = false := by simp [h4]
    go_enter Tryz.func69, Tryz.ntmps69
    go_wp2
    all_goals refine bodyPost_ret (v := .agg #[.int .i64 4, .string tb, .int .i64 t.n, .int .i64 t.at_]) (by simp [results, Tryz.results69, go_sem]) rfl ?_
    all_goals refine ⟨by rw [hT.out, h4], ?_, ?_⟩
    · exact (H.out.grown (World.grownBy_alloc _ _ none) (by simp)).grown (World.grownBy_alloc _ _ none) (by simp)
    · exact (World.grownBy_alloc _ _ _).trans (World.grownBy_alloc _ _ _)
  · have h4' : (t.kind != 4) = true := by simp [h4]
    go_enter Tryz.func69, Tryz.ntmps69
    go_wp2
    all_goals refine bodyPost_ret (v := .agg #[.int .i64 t.kind, .string tb, .int .i64 t.n, .int .i64 t.at_]) (by simp [results, Tryz.results69, go_sem]) rfl ?_
    all_goals refine ⟨by rw [hT.out], ?_, ?_⟩
    · have hr : r = [] := List.eq_nil_of_length_eq_zero (by have := HN.out; omega)
      subst hr
      have hz : n - 1 = 0 := by have := HN.out; simp at this; omega
      rw [hz]
      exact ((H.out.set (sl_nil _ _)).grown (World.grownBy_alloc _ _ none) (by simp)).grown (World.grownBy_alloc _ _ none) (by simp)
    · exact ((grown_setCell3 _ _ _ _).trans (World.grownBy_alloc _ _ _)).trans (World.grownBy_alloc _ _ _)
    · exact ((H.out.set ht.out).grown (World.grownBy_alloc _ _ none) (by simp)).grown (World.grownBy_alloc _ _ none) (by simp)
    · exact ((grown_setCell3 _ _ _ _).trans (World.grownBy_alloc _ _ _)).trans (World.grownBy_alloc _ _ _)
end Go.Proofs.YtoahaigfjfeopaaGreatDoor
