/- inst.parser: number. -/
import Derived.Test.YtoahaigfjfeopaaGreatDoorWs
import Derived.StillTailTactics
namespace Go.Proofs.YtoahaigfjfeopaaGreatDoor
open Go.RowKit

/-- A way that ends in the middle of a region: handed to the region's walk as an empty region. -/
theorem wpAny_shut {G : Prop} (P : Program) (a : Act) (w : World) (h : wpAny P .any #[] (fun _ _ _ => G) 0 #[] a w) : G := h.2
theorem grownBy_drew (w : World) (row : Option Nat) : w.grownBy w.drew row := below_grown0 (Below.drew (Below.refl _ _)) row
theorem PB.drew {g : Nat} {w : World} {ts : List Tok} {dv hv sv : Value} (h : PB g w ts dv hv sv) : PB g w.drew ts dv hv sv := h.grown (grownBy_drew w none) (by simp)
theorem PB.alloc {g : Nat} {w : World} {ts : List Tok} {dv hv sv : Value} (h : PB g w ts dv hv sv) (o : Obj) : PB g (w.alloc o) ts dv hv sv := h.grown (World.grownBy_alloc w o none) (by simp)

abbrev tokZ : Obj := .cells #[.int .i64 0, .string ⟨#[]⟩, .int .i64 0, .int .i64 0] 83

set_option maxRecDepth 100000 in
set_option maxHeartbeats 2000000 in
theorem number_p (g : Nat) (w : World) (t : Tok) (r : List Tok) (dv hv sv : Value) (m : Int) (h3 : 0 ≤ m) (h4 : m ≤ 9223372036854775807) (h : PB g w (t :: r) dv hv sv) :
    Calls Tryz.prog 101 #[.pointer (some ⟨g, 0, none⟩), .int .i64 m] w fun e w' => (if t.kind == 2 then (if smallB t.n m then e = .returned (.agg (tokC t).toArray) ∧ PB g w' r dv hv sv else e = wrongs t.at_ 4) else e = wrongs t.at_ 3) ∧ w.grownBy w' (some g) := by
  have hgw := h.lt
  have hP : PB g ((w.alloc tokZ).drew) (t :: r) dv hv sv := (h.alloc _).drew
  have hG : w.grownBy ((w.alloc tokZ).drew) (some g) := (World.grownBy_alloc _ _ _).trans (grownBy_drew _ _)
  have hX : ((w.alloc tokZ).drew).heap[w.heap.size]? = some tokZ := heap_alloc_new w _
  have HX := Lib.hid hX
  have HG := Lib.hid hG
  have HP := Lib.hid hP
  obtain ⟨A, n, c, hg, hs⟩ := hP
  obtain ⟨b, o, rfl, hb, hn, hnc, hmc, c0, c1, c2, c3⟩ := tok_head hs
  have g0 := cell_at hg (i := 0) rfl
  have hn0 : 0 < n := by omega
  have hT : Hid (tokC t = [.int .i64 t.kind, .string ⟨t.text.toArray⟩, .int .i64 t.n, .int .i64 t.at_]) := Lib.hid rfl
  generalize (ByteArray.mk t.text.toArray) = tb at c1 hT
  clear hs hg hn hX hG
  have hm := more_any g ((w.alloc tokZ).drew) t r dv hv sv HP.out
  by_cases hk : (t.kind == 2) = true
  · have hne : ¬ t.kind = 4 := by simp at hk; omega
    have hsa : ∀ w, Calls Tryz.prog 53 #[.int .i64 t.n, .int .i64 m] w fun e w' => e = .returned (.bool (smallB t.n m)) ∧ w' = w := fun w => (small_any t.n m w h3 h4).mono fun _ _ ⟨a, b⟩ => ⟨a, b.symm⟩
    have hWs : w.heap.size < (World.drew (w.alloc tokZ)).heap.size := lt_of_block HX.out
    by_cases hsm : smallB t.n m = true
    · simp only [hk, hsm, if_true] at hm hsa ⊢
      have HM := Lib.hid hm
      have HS := Lib.hid hsa
      clear hk hm h hsm hsa
      go_enter Tryz.func101, Tryz.ntmps101
      go_wp2_with fail
      refine wp_region_still_tail 8 (by kernel_rfl) (by kernel_rfl) ?_
      change wpStill _ _ (World.drew (w.alloc tokZ)) (fun a' => wpList _ _ _ _ a' (World.drew (w.alloc tokZ))) _ _
      generalize World.drew (w.alloc tokZ) = W at *
      simp only [List.take_succ_cons, List.take_zero, List.drop_succ_cons, List.drop_zero]
      repeat still_step
      still_call HM.out
      repeat still_step
      refine wpStill_nil ?_
      go_wp2_with (first
        | (go_at_call 71; refine (must_ok _ _ _ _ _ _).mono ?_; rintro e W2 ⟨rfl, hb2⟩; (have HP2 := Lib.hid (HP.out.grown (below_grown0 hb2 none) (by simp))); (have HG2 := Lib.hid (HG.out.trans (below_grown0 hb2 _))); (have HX2 := Lib.hid (block_kept hb2 HX.out)); clear hb2)
        | (go_at_call 69; refine (next_any g _ t r dv hv sv HP2.out).mono ?_; rintro e W3 ⟨rfl, hp3, hg3⟩; simp only [if_neg hne] at hp3; (have HP3 := Lib.hid hp3); (have HG3 := Lib.hid (HG2.out.trans hg3)); (have HX3 := Lib.hid ((hg3.block w.heap.size (lt_of_block HX2.out) (by simp; omega)).trans HX2.out)); clear hp3 hg3; rw [hT.out]))
      refine wp_region_still_tail 5 (by kernel_rfl) (by kernel_rfl) ?_
      change wpStill _ _ (World.drew (W3.alloc (.cells #[.int .i64 t.kind, .string tb, .int .i64 t.n, .int .i64 t.at_] 83))) (fun a' => wpList _ _ _ _ a' (World.drew (W3.alloc (.cells #[.int .i64 t.kind, .string tb, .int .i64 t.n, .int .i64 t.at_] 83)))) _ _
      have hX4 : (World.drew (W3.alloc (.cells #[.int .i64 t.kind, .string tb, .int .i64 t.n, .int .i64 t.at_] 83))).heap[W3.heap.size]? = _ := heap_alloc_new W3 _
      have HP4 := Lib.hid (HP3.out.alloc (.cells #[.int .i64 t.kind, .string tb, .int .i64 t.n, .int .i64 t.at_] 83)).drew
      have HG4 := Lib.hid ((HG3.out.trans (World.grownBy_alloc W3 (.cells #[.int .i64 t.kind, .string tb, .int .i64 t.n, .int .i64 t.at_] 83) _)).trans (grownBy_drew _ _))
      have HX4 := Lib.hid (((grownBy_drew _ none).block w.heap.size (lt_of_block (block_kept (below_alloc1 W3 (.cells #[.int .i64 t.kind, .string tb, .int .i64 t.n, .int .i64 t.at_] 83)) HX3.out)) (by simp)).trans (block_kept (below_alloc1 W3 (.cells #[.int .i64 t.kind, .string tb, .int .i64 t.n, .int .i64 t.at_] 83)) HX3.out))
      generalize World.drew (W3.alloc (.cells #[.int .i64 t.kind, .string tb, .int .i64 t.n, .int .i64 t.at_] 83)) = W4 at *
      generalize W3.heap.size = k4 at *
      have d0 := cell_at hX4 (i := 0) rfl
      have d1 := cell_at hX4 (i := 1) rfl
      have d2 := cell_at hX4 (i := 2) rfl
      have d3 := cell_at hX4 (i := 3) rfl
      have HB4 := Lib.hid hX4
      clear hX4 c0 c1 c2 c3 g0
      simp only [List.take_succ_cons, List.take_zero, List.drop_succ_cons, List.drop_zero]
      repeat still_step
      still_call HS.out _
      repeat still_step
      refine wpStill_nil ?_
      go_wp2_with (first
        | (go_at_call 71; refine (must_ok _ _ _ _ _ _).mono ?_; rintro e W5 ⟨rfl, hb5⟩; (have HP5 := Lib.hid (HP4.out.grown (below_grown0 hb5 none) (by simp))); (have HG5 := Lib.hid (HG4.out.trans (below_grown0 hb5 _))); (have HX5 := Lib.hid (block_kept hb5 HX4.out)); (have hB5 := block_kept hb5 HB4.out); (have e0 := cell_at hB5 (i := 0) rfl); (have e1 := cell_at hB5 (i := 1) rfl); (have e2 := cell_at hB5 (i := 2) rfl); (have e3 := cell_at hB5 (i := 3) rfl); clear hb5 hB5 d0 d1 d2 d3)
        | (refine wpList_store_abs rfl 83 _ _ rfl w.heap.size #[.int .i64 t.kind, .string tb, .int .i64 t.n, .int .i64 t.at_] rfl rfl 83 _ HX5.out (by kernel_rfl) rfl (by simp [Value.oneCell']) ?_))
      intro W6 hX6 hg6
      have f0 := cell_at hX6 (i := 0) rfl
      have f1 := cell_at hX6 (i := 1) rfl
      have f2 := cell_at hX6 (i := 2) rfl
      have f3 := cell_at hX6 (i := 3) rfl
      have HP6 := Lib.hid (HP5.out.grown hg6 (fun k hk => by injection hk with hk; omega))
      have HG6 := Lib.hid (HG5.out.andThen hg6 (fun j hj => by injection hj with hj; left; omega))
      simp only [List.getElem_toArray, List.getElem_cons_zero, List.getElem_cons_succ] at f0 f1 f2 f3
      clear hX6 hg6
      go_wp2
      refine bodyPost_ret (v := .agg #[.int .i64 t.kind, .string tb, .int .i64 t.n, .int .i64 t.at_]) (by simp [results, Tryz.results101, go_sem, f0, f1, f2, f3]) rfl ?_
      exact ⟨⟨by rw [hT.out], HP6.out⟩, HG6.out⟩
    · have hsm := Bool.eq_false_iff.2 hsm
      simp only [hk, hsm, if_true, if_false, Bool.false_eq_true] at hm hsa ⊢
      have HM := Lib.hid hm
      have HS := Lib.hid hsa
      clear hk hm h hsm hsa
      go_enter Tryz.func101, Tryz.ntmps101
      go_wp2_with fail
      refine wp_region_still_tail 8 (by kernel_rfl) (by kernel_rfl) ?_
      change wpStill _ _ (World.drew (w.alloc tokZ)) (fun a' => wpList _ _ _ _ a' (World.drew (w.alloc tokZ))) _ _
      generalize World.drew (w.alloc tokZ) = W at *
      simp only [List.take_succ_cons, List.take_zero, List.drop_succ_cons, List.drop_zero]
      repeat still_step
      still_call HM.out
      repeat still_step
      refine wpStill_nil ?_
      go_wp2_with (first
        | (go_at_call 71; refine (must_ok _ _ _ _ _ _).mono ?_; rintro e W2 ⟨rfl, hb2⟩; (have HP2 := Lib.hid (HP.out.grown (below_grown0 hb2 none) (by simp))); (have HG2 := Lib.hid (HG.out.trans (below_grown0 hb2 _))); (have HX2 := Lib.hid (block_kept hb2 HX.out)); clear hb2)
        | (go_at_call 69; refine (next_any g _ t r dv hv sv HP2.out).mono ?_; rintro e W3 ⟨rfl, hp3, hg3⟩; simp only [if_neg hne] at hp3; (have HP3 := Lib.hid hp3); (have HG3 := Lib.hid (HG2.out.trans hg3)); (have HX3 := Lib.hid ((hg3.block w.heap.size (lt_of_block HX2.out) (by simp; omega)).trans HX2.out)); clear hp3 hg3; rw [hT.out]))
      refine wp_region_still_tail 5 (by kernel_rfl) (by kernel_rfl) ?_
      change wpStill _ _ (World.drew (W3.alloc (.cells #[.int .i64 t.kind, .string tb, .int .i64 t.n, .int .i64 t.at_] 83))) (fun a' => wpList _ _ _ _ a' (World.drew (W3.alloc (.cells #[.int .i64 t.kind, .string tb, .int .i64 t.n, .int .i64 t.at_] 83)))) _ _
      have hX4 : (World.drew (W3.alloc (.cells #[.int .i64 t.kind, .string tb, .int .i64 t.n, .int .i64 t.at_] 83))).heap[W3.heap.size]? = _ := heap_alloc_new W3 _
      have HP4 := Lib.hid (HP3.out.alloc (.cells #[.int .i64 t.kind, .string tb, .int .i64 t.n, .int .i64 t.at_] 83)).drew
      have HG4 := Lib.hid ((HG3.out.trans (World.grownBy_alloc W3 (.cells #[.int .i64 t.kind, .string tb, .int .i64 t.n, .int .i64 t.at_] 83) _)).trans (grownBy_drew _ _))
      have HX4 := Lib.hid (((grownBy_drew _ none).block w.heap.size (lt_of_block (block_kept (below_alloc1 W3 (.cells #[.int .i64 t.kind, .string tb, .int .i64 t.n, .int .i64 t.at_] 83)) HX3.out)) (by simp)).trans (block_kept (below_alloc1 W3 (.cells #[.int .i64 t.kind, .string tb, .int .i64 t.n, .int .i64 t.at_] 83)) HX3.out))
      generalize World.drew (W3.alloc (.cells #[.int .i64 t.kind, .string tb, .int .i64 t.n, .int .i64 t.at_] 83)) = W4 at *
      generalize W3.heap.size = k4 at *
      have d0 := cell_at hX4 (i := 0) rfl
      have d1 := cell_at hX4 (i := 1) rfl
      have d2 := cell_at hX4 (i := 2) rfl
      have d3 := cell_at hX4 (i := 3) rfl
      have HB4 := Lib.hid hX4
      clear hX4 c0 c1 c2 c3 g0
      simp only [List.take_succ_cons, List.take_zero, List.drop_succ_cons, List.drop_zero]
      repeat still_step
      still_call HS.out _
      repeat still_step
      refine wpStill_nil ?_
      go_wp2_with (go_at_call 71; refine (must_bad _ _ _ _ _ _).mono ?_; rintro e W5 ⟨rfl, hb5⟩; exact ⟨rfl, rfl, HG4.out.trans (below_grown0 hb5 _)⟩)
  · have hk := Bool.eq_false_iff.2 hk
    simp only [hk, Bool.false_eq_true, if_false] at hm ⊢
    have HM := Lib.hid hm
    clear hk hm h
    go_enter Tryz.func101, Tryz.ntmps101
    go_wp2_with fail
    refine wp_region_still_tail 8 (by kernel_rfl) (by kernel_rfl) ?_
    change wpStill _ _ (World.drew (w.alloc tokZ)) (fun a' => wpList _ _ _ _ a' (World.drew (w.alloc tokZ))) _ _
    generalize World.drew (w.alloc tokZ) = W at *
    simp only [List.take_succ_cons, List.take_zero, List.drop_succ_cons, List.drop_zero]
    repeat still_step
    still_call HM.out
    repeat still_step
    refine wpStill_nil ?_
    go_wp2_with (go_at_call 71; refine (must_bad _ _ _ _ _ _).mono ?_; rintro e w' ⟨rfl, hb2⟩; exact ⟨rfl, rfl, HG.out.trans (below_grown0 hb2 _)⟩)
end Go.Proofs.YtoahaigfjfeopaaGreatDoor
