/- arboristref06.Same. -/
import Derived.Test.YtoahaigfjfeopaaGreatDoorWaj
namespace Go.Proofs.YtoahaigfjfeopaaGreatDoor
open Go.RowKit
attribute [local irreducible] wpStill wpLex Calls

theorem drop_sameG {α : Type} [DecidableEq α] (z : α) (xs ys : List α) (k : Nat) (h : k < xs.length) (h' : k < ys.length) : decide (xs.drop k = ys.drop k) = (decide (nth z xs k = nth z ys k) && decide (xs.drop (k + 1) = ys.drop (k + 1))) := by
  rw [drop_cons xs z k h, drop_cons ys z k h']
  simp
theorem same_con (a b : Con) : decide (a = b) = (decide (a.kind = b.kind) && decide (a.scope = b.scope) && decide (a.args = b.args) && decide (a.rows = b.rows)) := by
  cases a; cases b; simp [Con.mk.injEq]; grind
theorem same_sft (a b : Sft) : decide (a = b) = (decide (a.scope = b.scope) && decide (a.rows = b.rows) && decide (a.dflt = b.dflt) && decide (a.costs = b.costs)) := by
  cases a; cases b; simp [Sft.mk.injEq]; grind
theorem same_ins (a b : Ins) : decide (a = b) = (decide (a.doms = b.doms) && decide (a.hard = b.hard) && decide (a.soft = b.soft)) := by
  cases a; cases b; simp [Ins.mk.injEq]; grind

theorem below_store {w W : World} {o : Obj} (h : (w.alloc o).grownBy W (some w.heap.size)) : Below w.heap.size w W :=
  Below.grownAt ((Below.refl _ _).alloc (Nat.le_refl _) _) h (by simp) (Nat.le_refl _)
theorem cell_below {w W : World} {p : Addr} {v : Value} (h : Below w.heap.size w W) (hc : w.cell? p = some v) : W.cell? p = some v := (h.cell (lt_of_cell hc)).trans hc
theorem ints_below (v1 v2 : Value) (xs ys : List Int) (ok : Nat → Prop) (w : World) (h1 : Sl (Kd.int .i64) w ok v1 xs) (h2 : Sl (Kd.int .i64) w ok v2 ys) :
    Calls Tryz.prog 43 #[v1, v2] w fun e w' => e = .returned (.bool (decide (xs = ys))) ∧ Below w.heap.size w w' :=
  (ints_any v1 v2 xs ys ok w h1 h2).mono fun e w' ⟨h, n, hw⟩ => ⟨h, by rw [hw]; exact below_drewN (Below.refl _ _) n⟩
theorem tuples_below (v1 v2 : Value) (xs ys : List (List Int)) (ok : Nat → Prop) (w : World) (h1 : Sl kRow w ok v1 xs) (h2 : Sl kRow w ok v2 ys) :
    Calls Tryz.prog 42 #[v1, v2] w fun e w' => e = .returned (.bool (decide (xs = ys))) ∧ Below w.heap.size w w' :=
  (tuples_any v1 v2 xs ys ok w h1 h2).mono fun e w' ⟨h, n, hw⟩ => ⟨h, by rw [hw]; exact below_drewN (Below.refl _ _) n⟩
/-- A loop over two rows that are held against each other: how far it is. -/
def SamRel {α : Type} [DecidableEq α] (w : World) (xs ys : List α) (g : Nat) (v : Value) (wr : World) : Prop :=
  ∃ k : Nat, v = .int .i64 k ∧ k ≤ xs.length ∧ Hid (decide (xs = ys) = decide (xs.drop k = ys.drop k)) ∧ Below w.heap.size w wr ∧ g = xs.length - k

set_option maxRecDepth 100000 in
set_option maxHeartbeats 4000000 in
theorem same_any (dv hv sv dv' hv' sv' : Value) (x y : Ins) (ok : Nat → Prop) (w : World) (h1 : InsAt w ok dv hv sv x) (h2 : InsAt w ok dv' hv' sv' y) :
    Calls Tryz.prog 17 #[.agg #[dv, hv, sv], .agg #[dv', hv', sv']] w fun e w' => e = .returned (.bool (decide (x = y))) ∧ Below w.heap.size w w' := by
  obtain ⟨hD, hH, hS⟩ := h1
  obtain ⟨hD', hH', hS'⟩ := h2
  have HD := Lib.hid hD
  have HH := Lib.hid hH
  have HS := Lib.hid hS
  have HD' := Lib.hid hD'
  have HH' := Lib.hid hH'
  have HS' := Lib.hid hS'
  obtain ⟨DA, Dc, rfl, hc1, hm1, _⟩ := hD
  obtain ⟨HA, Hc, rfl, hc2, hm2, _⟩ := hH
  obtain ⟨SA, Sc, rfl, hc3, hm3, _⟩ := hS
  obtain ⟨DA', Dc', rfl, hc1', hm1', _⟩ := hD'
  obtain ⟨HA', Hc', rfl, hc2', hm2', _⟩ := hH'
  obtain ⟨SA', Sc', rfl, hc3', hm3', _⟩ := hS'
  go_enter Tryz.func17, Tryz.ntmps17
  have hb0 : Below w.heap.size w ((w.alloc (.cells #[.slice DA x.doms.length Dc, .slice HA x.hard.length Hc, .slice SA x.soft.length Sc] 26)).alloc (.cells #[.slice DA' y.doms.length Dc', .slice HA' y.hard.length Hc', .slice SA' y.soft.length Sc'] 26)) :=
    ((Below.refl _ _).alloc (Nat.le_refl _) _).alloc (by simp) _
  have hx0 : ((w.alloc (.cells #[.slice DA x.doms.length Dc, .slice HA x.hard.length Hc, .slice SA x.soft.length Sc] 26)).alloc (.cells #[.slice DA' y.doms.length Dc', .slice HA' y.hard.length Hc', .slice SA' y.soft.length Sc'] 26)).heap[w.heap.size]? = some (.cells #[.slice DA x.doms.length Dc, .slice HA x.hard.length Hc, .slice SA x.soft.length Sc] 26 (0, 0)) :=
    block_kept (below_alloc1 _ _) (heap_alloc_new w _)
  have hy0 : ((w.alloc (.cells #[.slice DA x.doms.length Dc, .slice HA x.hard.length Hc, .slice SA x.soft.length Sc] 26)).alloc (.cells #[.slice DA' y.doms.length Dc', .slice HA' y.hard.length Hc', .slice SA' y.soft.length Sc'] 26)).heap[w.heap.size + 1]? = some (.cells #[.slice DA' y.doms.length Dc', .slice HA' y.hard.length Hc', .slice SA' y.soft.length Sc'] 26 (0, 0)) := by
    have := heap_alloc_new (w.alloc (.cells #[.slice DA x.doms.length Dc, .slice HA x.hard.length Hc, .slice SA x.soft.length Sc] 26)) (.cells #[.slice DA' y.doms.length Dc', .slice HA' y.hard.length Hc', .slice SA' y.soft.length Sc'] 26)
    simpa using this
  have HT := Lib.hid (tuples_below _ _ _ _ ok _ (HD.out.below (by decide) hb0) (HD'.out.below (by decide) hb0))
  have HB := Lib.hid hb0
  have HX := Lib.hid hx0
  have HY := Lib.hid hy0
  have hs0 : w.heap.size + 2 ≤ ((w.alloc (.cells #[.slice DA x.doms.length Dc, .slice HA x.hard.length Hc, .slice SA x.soft.length Sc] 26)).alloc (.cells #[.slice DA' y.doms.length Dc', .slice HA' y.hard.length Hc', .slice SA' y.soft.length Sc'] 26)).heap.size := by simp
  have HS0 := Lib.hid hs0
  have HSM := Lib.hid (same_ins x y)
  clear hb0 hx0 hy0 hs0
  cases hq1 : decide (x.doms = y.doms)
  · rw [hq1] at HT
    have HQ1 := Lib.hid hq1
    clear hq1
    go_wp2_with (go_at_call 42; refine HT.out.mono ?_; rintro e w' ⟨rfl, hg⟩; (have h0 := block_kept hg HX.out); (have h1 := block_kept hg HY.out); (have HB2 := Lib.hid (below_next HB.out hg)); (have x0 := cell_at h0 (i := 0) rfl); (have x1 := cell_at h0 (i := 1) rfl); (have x2 := cell_at h0 (i := 2) rfl); (have y0 := cell_at h1 (i := 0) rfl); (have y1 := cell_at h1 (i := 1) rfl); (have y2 := cell_at h1 (i := 2) rfl); (have HX2 := Lib.hid h0); (have HY2 := Lib.hid h1); (have HS2 := Lib.hid (Nat.le_trans HS0.out hg.size)); clear h0 h1 hg HX HY HB HS0)
    go_ret
    exact ⟨ret_bool (by rw [HSM.out, HQ1.out]; rfl), HB2.out⟩
  · by_cases hq2 : x.hard.length = y.hard.length
    · have hb2 : ((x.hard.length : Int) != y.hard.length) = false := by simp [hq2]
      by_cases hq3 : x.soft.length = y.soft.length
      · have hb3 : ((x.soft.length : Int) != y.soft.length) = false := by simp [hq3]
        have HL2 := Lib.hid hq2
        have HL3 := Lib.hid hq3
        clear hq2 hq3
        rw [hq1] at HT
        have HQ1 := Lib.hid hq1
        clear hq1
        go_wp2_with (go_at_call 42; refine HT.out.mono ?_; rintro e w' ⟨rfl, hg⟩; (have h0 := block_kept hg HX.out); (have h1 := block_kept hg HY.out); (have HB2 := Lib.hid (below_next HB.out hg)); (have x0 := cell_at h0 (i := 0) rfl); (have x1 := cell_at h0 (i := 1) rfl); (have x2 := cell_at h0 (i := 2) rfl); (have y0 := cell_at h1 (i := 0) rfl); (have y1 := cell_at h1 (i := 1) rfl); (have y2 := cell_at h1 (i := 2) rfl); (have HX2 := Lib.hid h0); (have HY2 := Lib.hid h1); (have HS2 := Lib.hid (Nat.le_trans HS0.out hg.size)); clear h0 h1 hg HX HY HB HS0)
        clear hb2 hb3 x0 x1 x2 y0 y1 y2
        go_loopg [5] x.hard.length (fun g v wr => SamRel w' x.hard y.hard g v wr)
        case atStart => exact ⟨0, rfl, by omega, Lib.hid rfl, Below.refl _ _, rfl⟩
        case round =>
          obtain ⟨k, rfl, hk, H, hg, hgk⟩ := hrel
          have HGK := Lib.hid hgk
          have hl3 : w.heap.size + 2 ≤ wr.heap.size := Nat.le_trans HS2.out hg.size
          have h0 := block_kept hg HX2.out
          have h1 := block_kept hg HY2.out
          have x1 := cell_at h0 (i := 1) rfl
          have y1 := cell_at h1 (i := 1) rfl
          have HG := Lib.hid hg
          have HBR := Lib.hid (below_next HB2.out hg)
          have HX3 := Lib.hid h0
          have HY3 := Lib.hid h1
          clear h0 h1 hg hgk
          by_cases hlt : k < x.hard.length
          · obtain ⟨b, o, cs, rfl, _, hK, hcell⟩ := (HH.out.below (by decide) HBR.out).elems k (nth default x.hard k) (nth_get default x.hard k hlt)
            have hlt' : k < y.hard.length := by have := HL2.out; omega
            obtain ⟨b', o', cs', rfl, _, hK', hcell'⟩ := (HH'.out.below (by decide) HBR.out).elems k (nth default y.hard k) (nth_get default y.hard k hlt')
            obtain ⟨vs, vr, va, rfl, e1, e2, e3⟩ := kCon_cells hK
            obtain ⟨vs', vr', va', rfl, e1', e2', e3'⟩ := kCon_cells hK'
            have H' := Lib.hid (drop_sameG default x.hard y.hard k hlt hlt')
            have HC := Lib.hid (same_con (nth default x.hard k) (nth default y.hard k))
            generalize nth default x.hard k = c at *
            generalize nth default y.hard k = d at *
            have f0 := hcell 0 _ rfl
            have f1 := hcell 1 _ rfl
            have f2 := hcell 2 _ rfl
            have f3 := hcell 3 _ rfl
            have f0' := hcell' 0 _ rfl
            have f1' := hcell' 1 _ rfl
            have f2' := hcell' 2 _ rfl
            have f3' := hcell' 3 _ rfl
            simp only [show kCon.sz = 4 from rfl, Nat.add_zero, ← Nat.add_assoc] at f0 f1 f2 f3 f0' f1' f2' f3'
            have E1 := Lib.hid e1
            have E2 := Lib.hid e2
            have E3 := Lib.hid e3
            have E1' := Lib.hid e1'
            have E2' := Lib.hid e2'
            have E3' := Lib.hid e3'
            obtain ⟨_, _, rfl, _, _, _⟩ := e1
            obtain ⟨_, _, rfl, _, _, _⟩ := e2
            obtain ⟨_, _, rfl, _, _, _⟩ := e3
            obtain ⟨_, _, rfl, _, _, _⟩ := e1'
            obtain ⟨_, _, rfl, _, _, _⟩ := e2'
            obtain ⟨_, _, rfl, _, _, _⟩ := e3'
            clear hcell hcell' hK hK' HH HH'
            have hn1 := heap_alloc_new wr (.cells #[.int .i64 0, .slice none 0 0, .slice none 0 0, .slice none 0 0] 43)
            have HN1 := Lib.hid hn1
            clear hn1
            go_wp2_with (refine wpList_store_abs rfl 43 _ _ rfl wr.heap.size _ rfl rfl 43 _ HN1.out (by kernel_rfl) rfl (by simp [Value.oneCell']) ?_)
            intro W hW hgr
            have hbw := below_store hgr
            have h0 := block_kept hbw HX3.out
            have h1 := block_kept hbw HY3.out
            have y1' := cell_at h1 (i := 1) rfl
            have g0' := (cell_below hbw f0')
            have g1' := (cell_below hbw f1')
            have g2' := (cell_below hbw f2')
            have g3' := (cell_below hbw f3')
            have HBW := Lib.hid hbw
            have HW1 := Lib.hid hW
            clear h0 h1 hbw f0 f1 f2 f3 f0' f1' f2' f3' x1 y1 hgr hW HN1
            have hn1 := heap_alloc_new W (.cells #[.int .i64 0, .slice none 0 0, .slice none 0 0, .slice none 0 0] 43)
            have HN1 := Lib.hid hn1
            clear hn1
            go_wp2_with (refine wpList_store_abs rfl 43 _ _ rfl W.heap.size _ rfl rfl 43 _ HN1.out (by kernel_rfl) rfl (by simp [Value.oneCell']) ?_)
            intro W2 hW2 hgr
            have hbw := below_store hgr
            have HC1 := Lib.hid (block_kept hbw HW1.out)
            have HC2 := Lib.hid hW2
            have HBW2 := Lib.hid (below_next HBW.out hbw)
            have HI1 := Lib.hid (fun W3 (hb : Below W2.heap.size W2 W3) => ints_below _ _ _ _ ok W3 (E1.out.below (by decide) (below_next HBW2.out hb)) (E1'.out.below (by decide) (below_next HBW2.out hb)))
            have HI2 := Lib.hid (fun W3 (hb : Below W2.heap.size W2 W3) => ints_below _ _ _ _ ok W3 (E3.out.below (by decide) (below_next HBW2.out hb)) (E3'.out.below (by decide) (below_next HBW2.out hb)))
            have HT3 := Lib.hid (fun W3 (hb : Below W2.heap.size W2 W3) => tuples_below _ _ _ _ ok W3 (E2.out.below (by decide) (below_next HBW2.out hb)) (E2'.out.below (by decide) (below_next HBW2.out hb)))
            have HBC := Lib.hid (Below.refl W2.heap.size W2)
            have c0 := cell_at hW2 (i := 0) rfl
            have c1 := cell_at hW2 (i := 1) rfl
            have d0 := cell_at HC1.out (i := 0) rfl
            have d1 := cell_at HC1.out (i := 1) rfl
            clear hW2 hgr hbw g0' g1' g2' g3' y1' HN1 HW1 HBW E1 E1' E2 E2' E3 E3'
            by_cases hk1 : c.kind = d.kind
            · have hb1 : (c.kind != d.kind) = false := by simp [hk1]
              rw [decide_eq_true hk1] at HC
              clear hk1
              cases hs : decide (c.scope = d.scope)
              · rw [hs] at HI1 HC
                clear hs
                go_wp2_with (first
                  | (go_at_call 43; refine (HI1.out _ HBC.out).mono ?_; rintro e w3 ⟨rfl, hb⟩; (have HBD := Lib.hid (below_next HBC.out hb)); (have c3 := cell_at (block_kept HBD.out HC2.out) (i := 3) rfl); (have d3 := cell_at (block_kept HBD.out HC1.out) (i := 3) rfl); clear HI1 HBC c0 c1 d0 d1 hb)
                  | (go_at_call 43; refine (HI2.out _ HBD.out).mono ?_; rintro e w4 ⟨rfl, hb⟩; (have HBE := Lib.hid (below_next HBD.out hb)); (have c2 := cell_at (block_kept HBE.out HC2.out) (i := 2) rfl); (have d2 := cell_at (block_kept HBE.out HC1.out) (i := 2) rfl); clear HI2 HBD c3 d3 hb)
                  | (go_at_call 42; refine (HT3.out _ HBE.out).mono ?_; rintro e w5 ⟨rfl, hb⟩; (have HBF := Lib.hid (below_next HBE.out hb)); clear HT3 HBE c2 d2 hb))
                go_ret
                exact ⟨ret_bool (by rw [HSM.out, H.out, H'.out, HC.out]; simp), below_next (below_next HBR.out HBW2.out) HBD.out⟩
              · cases hs2 : decide (c.args = d.args)
                · rw [hs2] at HI2 HC
                  clear hs2
                  rw [hs] at HI1 HC
                  clear hs
                  go_wp2_with (first
                    | (go_at_call 43; refine (HI1.out _ HBC.out).mono ?_; rintro e w3 ⟨rfl, hb⟩; (have HBD := Lib.hid (below_next HBC.out hb)); (have c3 := cell_at (block_kept HBD.out HC2.out) (i := 3) rfl); (have d3 := cell_at (block_kept HBD.out HC1.out) (i := 3) rfl); clear HI1 HBC c0 c1 d0 d1 hb)
                    | (go_at_call 43; refine (HI2.out _ HBD.out).mono ?_; rintro e w4 ⟨rfl, hb⟩; (have HBE := Lib.hid (below_next HBD.out hb)); (have c2 := cell_at (block_kept HBE.out HC2.out) (i := 2) rfl); (have d2 := cell_at (block_kept HBE.out HC1.out) (i := 2) rfl); clear HI2 HBD c3 d3 hb)
                    | (go_at_call 42; refine (HT3.out _ HBE.out).mono ?_; rintro e w5 ⟨rfl, hb⟩; (have HBF := Lib.hid (below_next HBE.out hb)); clear HT3 HBE c2 d2 hb))
                  go_ret
                  exact ⟨ret_bool (by rw [HSM.out, H.out, H'.out, HC.out]; simp), below_next (below_next HBR.out HBW2.out) HBE.out⟩
                · rw [hs2] at HI2 HC
                  clear hs2
                  cases hs3 : decide (c.rows = d.rows)
                  · rw [hs3] at HT3 HC
                    clear hs3
                    rw [hs] at HI1 HC
                    clear hs
                    go_wp2_with (first
                      | (go_at_call 43; refine (HI1.out _ HBC.out).mono ?_; rintro e w3 ⟨rfl, hb⟩; (have HBD := Lib.hid (below_next HBC.out hb)); (have c3 := cell_at (block_kept HBD.out HC2.out) (i := 3) rfl); (have d3 := cell_at (block_kept HBD.out HC1.out) (i := 3) rfl); clear HI1 HBC c0 c1 d0 d1 hb)
                      | (go_at_call 43; refine (HI2.out _ HBD.out).mono ?_; rintro e w4 ⟨rfl, hb⟩; (have HBE := Lib.hid (below_next HBD.out hb)); (have c2 := cell_at (block_kept HBE.out HC2.out) (i := 2) rfl); (have d2 := cell_at (block_kept HBE.out HC1.out) (i := 2) rfl); clear HI2 HBD c3 d3 hb)
                      | (go_at_call 42; refine (HT3.out _ HBE.out).mono ?_; rintro e w5 ⟨rfl, hb⟩; (have HBF := Lib.hid (below_next HBE.out hb)); clear HT3 HBE c2 d2 hb))
                    go_ret
                    exact ⟨ret_bool (by rw [HSM.out, H.out, H'.out, HC.out]; simp), below_next (below_next HBR.out HBW2.out) HBF.out⟩
                  · rw [hs3] at HT3 HC
                    clear hs3
                    rw [hs] at HI1 HC
                    clear hs
                    go_wp2_with (first
                      | (go_at_call 43; refine (HI1.out _ HBC.out).mono ?_; rintro e w3 ⟨rfl, hb⟩; (have HBD := Lib.hid (below_next HBC.out hb)); (have c3 := cell_at (block_kept HBD.out HC2.out) (i := 3) rfl); (have d3 := cell_at (block_kept HBD.out HC1.out) (i := 3) rfl); clear HI1 HBC c0 c1 d0 d1 hb)
                      | (go_at_call 43; refine (HI2.out _ HBD.out).mono ?_; rintro e w4 ⟨rfl, hb⟩; (have HBE := Lib.hid (below_next HBD.out hb)); (have c2 := cell_at (block_kept HBE.out HC2.out) (i := 2) rfl); (have d2 := cell_at (block_kept HBE.out HC1.out) (i := 2) rfl); clear HI2 HBD c3 d3 hb)
                      | (go_at_call 42; refine (HT3.out _ HBE.out).mono ?_; rintro e w5 ⟨rfl, hb⟩; (have HBF := Lib.hid (below_next HBE.out hb)); clear HT3 HBE c2 d2 hb))
                    go_roundg (x.hard.length - (k + 1))
                    case rel => exact ⟨k + 1, by go_num, by omega, Lib.hid (by rw [H.out, H'.out, HC.out]; simp), below_next (below_next HG.out HBW2.out) HBF.out, rfl⟩
                    case measure => have := HGK.out; omega
            · have hb1 : (c.kind != d.kind) = true := by simp [hk1]
              rw [decide_eq_false hk1] at HC
              clear hk1
              go_wp2
              go_ret
              exact ⟨ret_bool (by rw [HSM.out, H.out, H'.out, HC.out]; simp), below_next HBR.out HBW2.out⟩
          · have HQ2 : Hid (decide (x.hard = y.hard) = true) := Lib.hid (by rw [H.out, List.drop_eq_nil_of_le (by omega), List.drop_eq_nil_of_le (by have := HL2.out; omega)]; rfl)
            have x2 := cell_at HX3.out (i := 2) rfl
            have y2 := cell_at HY3.out (i := 2) rfl
            clear H HH HH' HX2 HY2 HGK HL2
            go_wp2
            clear x1 y1 x2 y2 hlt hk
            go_loopg [8] x.soft.length (fun g v wr2 => SamRel wr x.soft y.soft g v wr2)
            case atStart => exact ⟨0, rfl, by omega, Lib.hid rfl, Below.refl _ _, rfl⟩
            case round =>
              obtain ⟨k2, rfl, hk, H, hg, hgk⟩ := hrel
              have HGK := Lib.hid hgk
              have hl4 : w.heap.size + 2 ≤ wr.heap.size := Nat.le_trans hl3 hg.size
              have h0 := block_kept hg HX3.out
              have h1 := block_kept hg HY3.out
              have x1 := cell_at h0 (i := 2) rfl
              have y1 := cell_at h1 (i := 2) rfl
              have HG2 := Lib.hid hg
              have HBR2 := Lib.hid (below_next HBR.out hg)
              have HX4 := Lib.hid h0
              have HY4 := Lib.hid h1
              clear h0 h1 hg hgk
              by_cases hlt : k2 < x.soft.length
              · obtain ⟨b, o, cs, rfl, _, hK, hcell⟩ := (HS.out.below (by decide) HBR2.out).elems k2 (nth default x.soft k2) (nth_get default x.soft k2 hlt)
                have hlt' : k2 < y.soft.length := by have := HL3.out; omega
                obtain ⟨b', o', cs', rfl, _, hK', hcell'⟩ := (HS'.out.below (by decide) HBR2.out).elems k2 (nth default y.soft k2) (nth_get default y.soft k2 hlt')
                obtain ⟨vs, vr, vc, rfl, e1, e2, e3⟩ := kSft_cells hK
                obtain ⟨vs', vr', vc', rfl, e1', e2', e3'⟩ := kSft_cells hK'
                have H' := Lib.hid (drop_sameG default x.soft y.soft k2 hlt hlt')
                have HC := Lib.hid (same_sft (nth default x.soft k2) (nth default y.soft k2))
                generalize nth default x.soft k2 = c at *
                generalize nth default y.soft k2 = d at *
                have f0 := hcell 0 _ rfl
                have f1 := hcell 1 _ rfl
                have f2 := hcell 2 _ rfl
                have f3 := hcell 3 _ rfl
                have f0' := hcell' 0 _ rfl
                have f1' := hcell' 1 _ rfl
                have f2' := hcell' 2 _ rfl
                have f3' := hcell' 3 _ rfl
                simp only [show kSft.sz = 4 from rfl, Nat.add_zero, ← Nat.add_assoc] at f0 f1 f2 f3 f0' f1' f2' f3'
                have E1 := Lib.hid e1
                have E2 := Lib.hid e2
                have E3 := Lib.hid e3
                have E1' := Lib.hid e1'
                have E2' := Lib.hid e2'
                have E3' := Lib.hid e3'
                obtain ⟨_, _, rfl, _, _, _⟩ := e1
                obtain ⟨_, _, rfl, _, _, _⟩ := e2
                obtain ⟨CA, Cc, rfl, hcc, hcm, _⟩ := e3
                obtain ⟨_, _, rfl, _, _, _⟩ := e1'
                obtain ⟨_, _, rfl, _, _, _⟩ := e2'
                obtain ⟨CA', Cc', rfl, hcc', hcm', _⟩ := e3'
                clear hcell hcell' hK hK' HS HS'
                have hn1 := heap_alloc_new wr (.cells #[.slice none 0 0, .slice none 0 0, .slice none 0 0, .int .i64 0] 47)
                have HN1 := Lib.hid hn1
                clear hn1
                go_wp2_with (refine wpList_store_abs rfl 47 _ _ rfl wr.heap.size _ rfl rfl 47 _ HN1.out (by kernel_rfl) rfl (by simp [Value.oneCell']) ?_)
                intro W hW hgr
                have hbw := below_store hgr
                have h0 := block_kept hbw HX4.out
                have h1 := block_kept hbw HY4.out
                have y1' := cell_at h1 (i := 2) rfl
                have g0' := (cell_below hbw f0')
                have g1' := (cell_below hbw f1')
                have g2' := (cell_below hbw f2')
                have g3' := (cell_below hbw f3')
                have HBW := Lib.hid hbw
                have HW1 := Lib.hid hW
                clear h0 h1 hbw f0 f1 f2 f3 f0' f1' f2' f3' x1 y1 hgr hW HN1
                have hn1 := heap_alloc_new W (.cells #[.slice none 0 0, .slice none 0 0, .slice none 0 0, .int .i64 0] 47)
                have HN1 := Lib.hid hn1
                clear hn1
                go_wp2_with (refine wpList_store_abs rfl 47 _ _ rfl W.heap.size _ rfl rfl 47 _ HN1.out (by kernel_rfl) rfl (by simp [Value.oneCell']) ?_)
                intro W2 hW2 hgr
                have hbw := below_store hgr
                have HC1 := Lib.hid (block_kept hbw HW1.out)
                have HC2 := Lib.hid hW2
                have HBW2 := Lib.hid (below_next HBW.out hbw)
                have HI1 := Lib.hid (fun W3 (hb : Below W2.heap.size W2 W3) => ints_below _ _ _ _ ok W3 (E1.out.below (by decide) (below_next HBW2.out hb)) (E1'.out.below (by decide) (below_next HBW2.out hb)))
                have HT3 := Lib.hid (fun W3 (hb : Below W2.heap.size W2 W3) => tuples_below _ _ _ _ ok W3 (E2.out.below (by decide) (below_next HBW2.out hb)) (E2'.out.below (by decide) (below_next HBW2.out hb)))
                have HBC := Lib.hid (Below.refl W2.heap.size W2)
                have c0 := cell_at hW2 (i := 0) rfl
                have d0 := cell_at HC1.out (i := 0) rfl
                clear hW2 hgr hbw g0' g1' g2' g3' y1' HN1 HW1 HBW E1 E1' E2 E2'
                cases hs : decide (c.scope = d.scope)
                · rw [hs] at HI1 HC
                  clear hs
                  go_wp2_with (first
                    | (go_at_call 43; refine (HI1.out _ HBC.out).mono ?_; rintro e w3 ⟨rfl, hb⟩; (have HBD := Lib.hid (below_next HBC.out hb)); (have c1 := cell_at (block_kept HBD.out HC2.out) (i := 1) rfl); (have d1 := cell_at (block_kept HBD.out HC1.out) (i := 1) rfl); clear HI1 HBC c0 d0 hb)
                    | (go_at_call 42; refine (HT3.out _ HBD.out).mono ?_; rintro e w4 ⟨rfl, hb⟩; (have HBE := Lib.hid (below_next HBD.out hb)); (have HX5 := Lib.hid (block_kept HBE.out HC2.out)); (have HY5 := Lib.hid (block_kept HBE.out HC1.out)); (have c2 := cell_at HX5.out (i := 2) rfl); (have d2 := cell_at HY5.out (i := 2) rfl); (have c3 := cell_at HX5.out (i := 3) rfl); (have d3 := cell_at HY5.out (i := 3) rfl); clear HT3 HBD c1 d1 hb))
                  go_ret
                  exact ⟨ret_bool (by rw [HSM.out, H.out, H'.out, HC.out]; simp), below_next (below_next HBR2.out HBW2.out) HBD.out⟩
                · cases hs2 : decide (c.rows = d.rows)
                  · rw [hs2] at HT3 HC
                    clear hs2
                    rw [hs] at HI1 HC
                    clear hs
                    go_wp2_with (first
                      | (go_at_call 43; refine (HI1.out _ HBC.out).mono ?_; rintro e w3 ⟨rfl, hb⟩; (have HBD := Lib.hid (below_next HBC.out hb)); (have c1 := cell_at (block_kept HBD.out HC2.out) (i := 1) rfl); (have d1 := cell_at (block_kept HBD.out HC1.out) (i := 1) rfl); clear HI1 HBC c0 d0 hb)
                      | (go_at_call 42; refine (HT3.out _ HBD.out).mono ?_; rintro e w4 ⟨rfl, hb⟩; (have HBE := Lib.hid (below_next HBD.out hb)); (have HX5 := Lib.hid (block_kept HBE.out HC2.out)); (have HY5 := Lib.hid (block_kept HBE.out HC1.out)); (have c2 := cell_at HX5.out (i := 2) rfl); (have d2 := cell_at HY5.out (i := 2) rfl); (have c3 := cell_at HX5.out (i := 3) rfl); (have d3 := cell_at HY5.out (i := 3) rfl); clear HT3 HBD c1 d1 hb))
                    go_ret
                    exact ⟨ret_bool (by rw [HSM.out, H.out, H'.out, HC.out]; simp), below_next (below_next HBR2.out HBW2.out) HBE.out⟩
                  · rw [hs2] at HT3 HC
                    clear hs2
                    by_cases hk1 : c.dflt = d.dflt
                    · have hb1 : (c.dflt != d.dflt) = false := by simp [hk1]
                      rw [decide_eq_true hk1] at HC
                      clear hk1
                      by_cases hk4 : c.costs.length = d.costs.length
                      · have hb4 : ((c.costs.length : Int) != d.costs.length) = false := by simp [hk4]
                        have HL4 := Lib.hid hk4
                        clear hk4
                        rw [hs] at HI1 HC
                        clear hs
                        go_wp2_with (first
                          | (go_at_call 43; refine (HI1.out _ HBC.out).mono ?_; rintro e w3 ⟨rfl, hb⟩; (have HBD := Lib.hid (below_next HBC.out hb)); (have c1 := cell_at (block_kept HBD.out HC2.out) (i := 1) rfl); (have d1 := cell_at (block_kept HBD.out HC1.out) (i := 1) rfl); clear HI1 HBC c0 d0 hb)
                          | (go_at_call 42; refine (HT3.out _ HBD.out).mono ?_; rintro e w4 ⟨rfl, hb⟩; (have HBE := Lib.hid (below_next HBD.out hb)); (have HX5 := Lib.hid (block_kept HBE.out HC2.out)); (have HY5 := Lib.hid (block_kept HBE.out HC1.out)); (have c2 := cell_at HX5.out (i := 2) rfl); (have d2 := cell_at HY5.out (i := 2) rfl); (have c3 := cell_at HX5.out (i := 3) rfl); (have d3 := cell_at HY5.out (i := 3) rfl); clear HT3 HBD c1 d1 hb))
                        have E4 := Lib.hid (E3.out.below (by decide) (below_next HBW2.out HBE.out))
                        have E4' := Lib.hid (E3'.out.below (by decide) (below_next HBW2.out HBE.out))
                        have HW4 := Lib.hid (below_next HBW2.out HBE.out)
                        clear c2 d2 c3 d3 hb4 hb1 E3 E3' HC1 HC2 HBE
                        go_loopg [11] c.costs.length (fun g v wr3 => SamRel w4 c.costs d.costs g v wr3)
                        case atStart => exact ⟨0, rfl, by omega, Lib.hid rfl, Below.refl _ _, rfl⟩
                        case round =>
                          obtain ⟨k3, rfl, hk3, HE, hg, hgk⟩ := hrel
                          have HGK3 := Lib.hid hgk
                          have h0 := block_kept hg HX5.out
                          have h1 := block_kept hg HY5.out
                          have c2 := cell_at h0 (i := 2) rfl
                          have d2 := cell_at h1 (i := 2) rfl
                          have HG3 := Lib.hid hg
                          clear h0 h1 hg hgk
                          by_cases hlt3 : k3 < c.costs.length
                          · have hlt3' : k3 < d.costs.length := by have := HL4.out; omega
                            obtain ⟨b3, o3, rfl, hc3⟩ := (E4.out.below (by decide) HG3.out).elems.num hlt3
                            obtain ⟨b4, o4, rfl, hc4⟩ := (E4'.out.below (by decide) HG3.out).elems.num hlt3'
                            have HE' := Lib.hid (drop_sameG (0 : Int) c.costs d.costs k3 hlt3 hlt3')
                            clear E4 E4'
                            by_cases hq : nth 0 c.costs k3 = nth 0 d.costs k3
                            · have hb : (nth 0 c.costs k3 != nth 0 d.costs k3) = false := by simp [hq]
                              rw [decide_eq_true hq] at HE'
                              clear hq
                              go_wp2
                              go_quiet (fail)
                              go_wp2
                              go_roundg (c.costs.length - (k3 + 1))
                              case rel => exact ⟨k3 + 1, by go_num, by omega, Lib.hid (by rw [HE.out, HE'.out]; simp), below_drewN HG3.out _, rfl⟩
                              case measure => have := HGK3.out; omega
                            · have hb : (nth 0 c.costs k3 != nth 0 d.costs k3) = true := by simp [hq]
                              rw [decide_eq_false hq] at HE'
                              clear hq
                              go_wp2
                              go_quiet (fail)
                              go_wp2
                              go_ret
                              exact ⟨ret_bool (by rw [HSM.out, H.out, H'.out, HC.out, HE.out, HE'.out]; simp), below_drewN (below_next (below_next HBR2.out HW4.out) HG3.out) _⟩
                          · have HE' : Hid (decide (c.costs = d.costs) = true) := Lib.hid (by rw [HE.out, List.drop_eq_nil_of_le (by omega), List.drop_eq_nil_of_le (by have := HL4.out; omega)]; rfl)
                            go_wp2
                            go_roundg (x.soft.length - (k2 + 1))
                            case rel => exact ⟨k2 + 1, by go_num, by omega, Lib.hid (by rw [H.out, H'.out, HC.out, HE'.out]; simp), below_next (below_next HG2.out HW4.out) HG3.out, rfl⟩
                            case measure => have := HGK.out; omega
                      · have hb4 : ((c.costs.length : Int) != d.costs.length) = true := by simp; omega
                        rw [decide_eq_false (p := c.costs = d.costs) (fun e => hk4 (by rw [e]))] at HC
                        clear hk4
                        rw [hs] at HI1 HC
                        clear hs
                        go_wp2_with (first
                          | (go_at_call 43; refine (HI1.out _ HBC.out).mono ?_; rintro e w3 ⟨rfl, hb⟩; (have HBD := Lib.hid (below_next HBC.out hb)); (have c1 := cell_at (block_kept HBD.out HC2.out) (i := 1) rfl); (have d1 := cell_at (block_kept HBD.out HC1.out) (i := 1) rfl); clear HI1 HBC c0 d0 hb)
                          | (go_at_call 42; refine (HT3.out _ HBD.out).mono ?_; rintro e w4 ⟨rfl, hb⟩; (have HBE := Lib.hid (below_next HBD.out hb)); (have HX5 := Lib.hid (block_kept HBE.out HC2.out)); (have HY5 := Lib.hid (block_kept HBE.out HC1.out)); (have c2 := cell_at HX5.out (i := 2) rfl); (have d2 := cell_at HY5.out (i := 2) rfl); (have c3 := cell_at HX5.out (i := 3) rfl); (have d3 := cell_at HY5.out (i := 3) rfl); clear HT3 HBD c1 d1 hb))
                        go_ret
                        exact ⟨ret_bool (by rw [HSM.out, H.out, H'.out, HC.out]; simp), below_next (below_next HBR2.out HBW2.out) HBE.out⟩
                    · have hb1 : (c.dflt != d.dflt) = true := by simp [hk1]
                      rw [decide_eq_false hk1] at HC
                      clear hk1
                      rw [hs] at HI1 HC
                      clear hs
                      go_wp2_with (first
                        | (go_at_call 43; refine (HI1.out _ HBC.out).mono ?_; rintro e w3 ⟨rfl, hb⟩; (have HBD := Lib.hid (below_next HBC.out hb)); (have c1 := cell_at (block_kept HBD.out HC2.out) (i := 1) rfl); (have d1 := cell_at (block_kept HBD.out HC1.out) (i := 1) rfl); clear HI1 HBC c0 d0 hb)
                        | (go_at_call 42; refine (HT3.out _ HBD.out).mono ?_; rintro e w4 ⟨rfl, hb⟩; (have HBE := Lib.hid (below_next HBD.out hb)); (have HX5 := Lib.hid (block_kept HBE.out HC2.out)); (have HY5 := Lib.hid (block_kept HBE.out HC1.out)); (have c2 := cell_at HX5.out (i := 2) rfl); (have d2 := cell_at HY5.out (i := 2) rfl); (have c3 := cell_at HX5.out (i := 3) rfl); (have d3 := cell_at HY5.out (i := 3) rfl); clear HT3 HBD c1 d1 hb))
                      go_ret
                      exact ⟨ret_bool (by rw [HSM.out, H.out, H'.out, HC.out]; simp), below_next (below_next HBR2.out HBW2.out) HBE.out⟩
              · go_wp2
                go_ret
                exact ⟨ret_bool (by rw [HSM.out, HQ1.out, HQ2.out, H.out, List.drop_eq_nil_of_le (by omega), List.drop_eq_nil_of_le (by have := HL3.out; omega)]; rfl), HBR2.out⟩
      · have hb3 : ((x.soft.length : Int) != y.soft.length) = true := by simp; omega
        have HL3 := Lib.hid hq3
        clear hq2 hq3
        rw [hq1] at HT
        have HQ1 := Lib.hid hq1
        clear hq1
        go_wp2_with (go_at_call 42; refine HT.out.mono ?_; rintro e w' ⟨rfl, hg⟩; (have h0 := block_kept hg HX.out); (have h1 := block_kept hg HY.out); (have HB2 := Lib.hid (below_next HB.out hg)); (have x0 := cell_at h0 (i := 0) rfl); (have x1 := cell_at h0 (i := 1) rfl); (have x2 := cell_at h0 (i := 2) rfl); (have y0 := cell_at h1 (i := 0) rfl); (have y1 := cell_at h1 (i := 1) rfl); (have y2 := cell_at h1 (i := 2) rfl); (have HX2 := Lib.hid h0); (have HY2 := Lib.hid h1); (have HS2 := Lib.hid (Nat.le_trans HS0.out hg.size)); clear h0 h1 hg HX HY HB HS0)
        go_ret
        exact ⟨ret_bool (by rw [HSM.out, decide_eq_false (p := x.soft = y.soft) (fun e => HL3.out (by rw [e]))]; simp), HB2.out⟩
    · have hb2 : ((x.hard.length : Int) != y.hard.length) = true := by simp; omega
      have HL3 := Lib.hid hq2
      clear hq2
      rw [hq1] at HT
      have HQ1 := Lib.hid hq1
      clear hq1
      go_wp2_with (go_at_call 42; refine HT.out.mono ?_; rintro e w' ⟨rfl, hg⟩; (have h0 := block_kept hg HX.out); (have h1 := block_kept hg HY.out); (have HB2 := Lib.hid (below_next HB.out hg)); (have x0 := cell_at h0 (i := 0) rfl); (have x1 := cell_at h0 (i := 1) rfl); (have x2 := cell_at h0 (i := 2) rfl); (have y0 := cell_at h1 (i := 0) rfl); (have y1 := cell_at h1 (i := 1) rfl); (have y2 := cell_at h1 (i := 2) rfl); (have HX2 := Lib.hid h0); (have HY2 := Lib.hid h1); (have HS2 := Lib.hid (Nat.le_trans HS0.out hg.size)); clear h0 h1 hg HX HY HB HS0)
      go_ret
      exact ⟨ret_bool (by rw [HSM.out, decide_eq_false (p := x.hard = y.hard) (fun e => HL3.out (by rw [e]))]; simp), HB2.out⟩
end Go.Proofs.YtoahaigfjfeopaaGreatDoor
