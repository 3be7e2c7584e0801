/- Texts joined: Waj Wak Pg Wal Ra Rb. -/
import Derived.Test.YtoahaigfjfeopaaGreatDoorGf
import Derived.Test.YtoahaigfjfeopaaGreatDoorGc
import Derived.Test.YtoahaigfjfeopaaGreatDoorGb
import Derived.KernelRfl
import Derived.Test.YtoahaigfjfeopaaGreatDoorCards
import Derived.Test.YtoahaigfjfeopaaGreatDoorTie
import Derived.OpenShut
import Derived.Deep.DeepHandedRow
import Derived.Deep.DeepWitnessRowRef
import Derived.Lib.LaidTab
import Derived.Stop.LaidErr
import Derived.LaidMore
import Derived.Carry
import Derived.Test.YtoahaigfjfeopaaGreatDoorGa
/- arboristref01.Compare, arboristref06.ints, tuples. -/
namespace Go.Proofs.YtoahaigfjfeopaaGreatDoor
open Go.RowKit
attribute [local irreducible] wpStill wpLex Calls

theorem cmpL_zero : ∀ (xs ys : List Int), cmpL xs ys = 0 ↔ xs = ys
  | [], [] => by simp [cmpL]
  | [], _ :: _ => by simp [cmpL]
  | _ :: _, [] => by simp [cmpL]
  | a :: l, b :: m => by
    rw [cmpL]
    split
    · constructor
      · intro h; omega
      · intro h; injection h with h; omega
    · split
      · constructor
        · intro h; omega
        · intro h; injection h with h; omega
      · rw [cmpL_zero l m]
        have : a = b := by omega
        rw [this]; simp
theorem cmpL_drop (xs ys : List Int) (k : Nat) (h : k < xs.length) (h' : k < ys.length) : cmpL (xs.drop k) (ys.drop k) = if nth 0 xs k < nth 0 ys k then -1 else if nth 0 ys k < nth 0 xs k then 1 else cmpL (xs.drop (k + 1)) (ys.drop (k + 1)) := by
  rw [drop_cons xs 0 k h, drop_cons ys 0 k h', cmpL]

theorem refcmp_any (v1 v2 : Value) (xs ys : List Int) (ok : Nat → Prop) (w : World) (h1 : Sl (Kd.int .i64) w ok v1 xs) (h2 : Sl (Kd.int .i64) w ok v2 ys) :
    Calls Tryz.prog 66 #[v1, v2] w fun e w' => e = .returned (.int .i64 (cmpL xs ys)) ∧ ∃ n, w' = w.drewN n := by
  obtain ⟨A, c, rfl, hc, hm, hA⟩ := h1
  obtain ⟨A', c', rfl, hc', hm', hA'⟩ := h2
  go_enter Tryz.func66, Tryz.ntmps66
  go_wp2
  go_loopw [5] (fun i wr => ∃ k : Nat, i = .int .i64 k ∧ k ≤ xs.length ∧ k ≤ ys.length ∧ Hid (cmpL xs ys = cmpL (xs.drop k) (ys.drop k)) ∧ ∃ n, wr = w.drewN n) (fun i _ => xs.length - (intOf i).toNat)
  case atStart => exact ⟨0, rfl, by omega, by omega, Lib.hid rfl, 0, rfl⟩
  case round =>
    obtain ⟨k, rfl, hk, hk', H, nd, rfl⟩ := hrel
    by_cases hlt : k < xs.length
    · by_cases hlt' : k < ys.length
      · obtain ⟨b, o, rfl, hcell⟩ := hA.num hlt
        obtain ⟨b', o', rfl, hcell'⟩ := hA'.num hlt'
        clear hA hA'
        have H' := Lib.hid (cmpL_drop xs ys k hlt hlt')
        by_cases h : nth 0 xs k < nth 0 ys k
        · go_wp2
          go_quiet (fail)
          go_wp2
          go_ret
          exact ⟨ret_int (by rw [H.out, H'.out, if_pos h]), by first | exact ⟨_, rfl⟩ | exact ⟨_, World.drewN_drewN ..⟩⟩
        · by_cases h2 : nth 0 ys k < nth 0 xs k
          · go_wp2
            go_quiet (fail)
            go_wp2
            go_quiet (fail)
            go_wp2
            go_ret
            exact ⟨ret_int (by rw [H.out, H'.out, if_neg (by omega), if_pos h2]), _, by rw [World.drewN_drewN, World.drewN_drewN]⟩
          · go_wp2
            go_quiet (fail)
            go_wp2
            go_quiet (fail)
            go_wp2
            go_roundw
            case rel => exact ⟨k + 1, by go_num, by omega, by omega, Lib.hid (by rw [H.out, H'.out, if_neg (by omega), if_neg (by omega)]), _, rfl⟩
            case measure => simp [intOf]; omega
      · go_wp2
        go_ret
        refine ⟨ret_int ?_, _, rfl⟩
        rw [H.out, drop_cons xs 0 k hlt, List.drop_eq_nil_of_le (show ys.length ≤ k by omega)]; rfl
    · have hb1 := Lib.hid hlt
      by_cases hlt' : k < ys.length
      · go_wp2
        go_ret
        refine ⟨ret_int ?_, _, rfl⟩
        rw [H.out, drop_cons ys 0 k hlt', List.drop_eq_nil_of_le (show xs.length ≤ k by omega)]; rfl
      · go_wp2
        go_ret
        refine ⟨ret_int ?_, _, rfl⟩
        rw [H.out, List.drop_eq_nil_of_le (show xs.length ≤ k by omega), List.drop_eq_nil_of_le (show ys.length ≤ k by omega)]; rfl

theorem ints_any (v1 v2 : Value) (xs ys : List Int) (ok : Nat → Prop) (w : World) (h1 : Sl (Kd.int .i64) w ok v1 xs) (h2 : Sl (Kd.int .i64) w ok v2 ys) :
    Calls Tryz.prog 43 #[v1, v2] w fun e w' => e = .returned (.bool (decide (xs = ys))) ∧ ∃ n, w' = w.drewN n := by
  have hx : Hid (decide (xs = ys) = (cmpL xs ys == 0)) := Lib.hid (by rw [decide_eq_decide.2 (cmpL_zero xs ys).symm]; rfl)
  go_enter Tryz.func43, Tryz.ntmps43
  go_wp2_with (go_at_call 66; refine (refcmp_any _ _ _ _ _ _ h1 h2).mono ?_; rintro e w' ⟨rfl, n, rfl⟩)
  go_ret
  exact ⟨ret_bool hx.out.symm, _, rfl⟩

theorem drop_same (xs ys : List (List Int)) (k : Nat) (h : k < xs.length) (h' : k < ys.length) : decide (xs.drop k = ys.drop k) = (decide (nth [] xs k = nth [] ys k) && decide (xs.drop (k + 1) = ys.drop (k + 1))) := by
  rw [drop_cons xs [] k h, drop_cons ys [] k h']
  simp
def TupRel (w : World) (xs ys : List (List Int)) (g : Nat) (v : Value) (wr : World) : Prop :=
  ∃ k : Nat, v = .int .i64 k ∧ k ≤ xs.length ∧ Hid (decide (xs = ys) = decide (xs.drop k = ys.drop k)) ∧ ∃ n, wr = w.drewN n ∧ g = xs.length - k
set_option maxRecDepth 100000 in
theorem tuples_any (v1 v2 : Value) (xs ys : List (List Int)) (ok : Nat → Prop) (w : World) (h1 : Sl kRow w ok v1 xs) (h2 : Sl kRow w ok v2 ys) :
    Calls Tryz.prog 42 #[v1, v2] w fun e w' => e = .returned (.bool (decide (xs = ys))) ∧ ∃ n, w' = w.drewN n := by
  have H1 := Lib.hid h1
  have H2 := Lib.hid h2
  obtain ⟨A, c, rfl, hc, hm, _⟩ := h1
  obtain ⟨A', c', rfl, hc', hm', _⟩ := h2
  go_enter Tryz.func42, Tryz.ntmps42
  by_cases hl : xs.length = ys.length
  · have hb : ((xs.length : Int) != ys.length) = false := by simp [hl]
    have HL := Lib.hid hl
    go_wp2
    clear hl hb
    go_loopg [5] xs.length (fun g v wr => TupRel w xs ys g v wr)
    case atStart => exact ⟨0, rfl, by omega, Lib.hid rfl, 0, rfl, by omega⟩
    case round =>
      obtain ⟨k, rfl, hk, H, nd, rfl, hg⟩ := hrel
      have HG := Lib.hid hg
      clear hg
      by_cases hlt : k < xs.length
      · obtain ⟨b, o, v, rfl, hcell, hv⟩ := H1.out.elems.row (j := k) hlt
        obtain ⟨b', o', v', rfl, hcell', hv'⟩ := H2.out.elems.row (j := k) (by have := HL.out; omega)
        have hlt' : k < ys.length := by have := HL.out; omega
        have hr := Lib.hid (fun n => (ints_any v v' _ _ ok ((w.drewN nd).drewN n) hv hv'))
        have H' := Lib.hid (drop_same xs ys k hlt hlt')
        clear H1 H2 hv hv'
        go_wp2_with fail
        refine wp_region_lex (fun w' => w'.cell? ⟨b, o + k, none⟩ = some v ∧ w'.cell? ⟨b', o' + k, none⟩ = some v') [true, true, true, true, true, true, true, true, false, false] (by kernel_rfl) (by kernel_rfl) (fun c a d v w h => by cases d <;> exact h) ?_
        change wpLex _ _ _ _ _ _ _ _ _ (World.drew (w.drewN nd))
        have e1 : (World.drew (w.drewN nd)).cell? ⟨b, o + k, none⟩ = some v := hcell
        have e2 : (World.drew (w.drewN nd)).cell? ⟨b', o' + k, none⟩ = some v' := hcell'
        repeat (first | (refine lex_take ⟨e1, e2⟩ rfl (fun w' hw' => by (obtain ⟨x1, x2⟩ := hw'; (try go_simp); try rfl)) (fun K hK => ?_); go_simp; refine hK _ _ ?_; clear hK K) | (refine lex_take_on _ _ _ _ ⟨e1, e2⟩ rfl rfl rfl rfl (fun w' hw' => by (obtain ⟨x1, x2⟩ := hw'; (try go_simp); try rfl)) (fun K hK => ?_); go_simp; refine hK _ _ ?_; clear hK K) | (refine lex_take_off _ _ _ _ _ ⟨e1, e2⟩ rfl rfl rfl rfl rfl (fun K hK => ?_); go_simp; refine hK _ _ ?_; clear hK K))
        cases hb : decide (nth [] xs k = nth [] ys k)
        · rw [hb] at hr H'
          have HR := Lib.hid (hr.out 1)
          clear hr
          refine lex_step rfl (fun K hK => ?_)
          go_wp2_with (go_at_call 43; refine HR.out.mono ?_; rintro e w' ⟨rfl, n2, rfl⟩)
          refine hK _ _ ⟨e1, e2⟩ ?_
          clear hK K
          refine lex_list _ _ _ _ _ rfl (by kernel_rfl) ?_
          go_wp2
          go_ret
          exact ⟨ret_bool (by rw [H.out, H'.out]; rfl), _, rfl⟩
        · rw [hb] at hr H'
          have HR := Lib.hid (hr.out 1)
          clear hr
          refine lex_step rfl (fun K hK => ?_)
          go_wp2_with (go_at_call 43; refine HR.out.mono ?_; rintro e w' ⟨rfl, n2, rfl⟩)
          refine hK _ _ ⟨e1, e2⟩ ?_
          clear hK K
          refine lex_list _ _ _ _ _ rfl (by kernel_rfl) ?_
          go_wp2
          go_roundg (xs.length - (k + 1))
          case rel => exact ⟨k + 1, by go_num, by omega, Lib.hid (by rw [H.out, H'.out]; simp), _, rfl, rfl⟩
          case measure => have := HG.out; omega
      · go_wp2
        go_ret
        refine ⟨ret_bool ?_, _, rfl⟩
        have := HL.out
        rw [H.out, List.drop_eq_nil_of_le (by omega), List.drop_eq_nil_of_le (by omega)]; rfl
  · have hb : ((xs.length : Int) != ys.length) = true := by simp; omega
    go_wp2
    go_ret
    exact ⟨ret_bool (by simp; intro e; rw [e] at hl; omega), 0, rfl⟩
end Go.Proofs.YtoahaigfjfeopaaGreatDoor

/- arboristref06.Same. -/
namespace Go.Proofs.YtoahaigfjfeopaaGreatDoor
open Go.RowKit
attribute [local irreducible] wpStill wpLex Calls

theorem drop_sameG {α : Type} [DecidableEq α] (z : α) (xs ys : List α) (k : Nat) (h : k < xs.length) (h' : k < ys.length) : decide (xs.drop k = ys.drop k) = (decide (nth z xs k = nth z ys k) && decide (xs.drop (k + 1) = ys.drop (k + 1))) := by
  rw [drop_cons xs z k h, drop_cons ys z k h']
  simp
theorem same_con (a b : Con) : decide (a = b) = (decide (a.kind = b.kind) && decide (a.scope = b.scope) && decide (a.args = b.args) && decide (a.rows = b.rows)) := by
  cases a; cases b; simp [Con.mk.injEq]; grind
theorem same_sft (a b : Sft) : decide (a = b) = (decide (a.scope = b.scope) && decide (a.rows = b.rows) && decide (a.dflt = b.dflt) && decide (a.costs = b.costs)) := by
  cases a; cases b; simp [Sft.mk.injEq]; grind
theorem same_ins (a b : Ins) : decide (a = b) = (decide (a.doms = b.doms) && decide (a.hard = b.hard) && decide (a.soft = b.soft)) := by
  cases a; cases b; simp [Ins.mk.injEq]; grind

theorem below_store {w W : World} {o : Obj} (h : (w.alloc o).grownBy W (some w.heap.size)) : Below w.heap.size w W :=
  Below.grownAt ((Below.refl _ _).alloc (Nat.le_refl _) _) h (by simp) (Nat.le_refl _)
theorem cell_below {w W : World} {p : Addr} {v : Value} (h : Below w.heap.size w W) (hc : w.cell? p = some v) : W.cell? p = some v := (h.cell (lt_of_cell hc)).trans hc
theorem ints_below (v1 v2 : Value) (xs ys : List Int) (ok : Nat → Prop) (w : World) (h1 : Sl (Kd.int .i64) w ok v1 xs) (h2 : Sl (Kd.int .i64) w ok v2 ys) :
    Calls Tryz.prog 43 #[v1, v2] w fun e w' => e = .returned (.bool (decide (xs = ys))) ∧ Below w.heap.size w w' :=
  (ints_any v1 v2 xs ys ok w h1 h2).mono fun e w' ⟨h, n, hw⟩ => ⟨h, by rw [hw]; exact below_drewN (Below.refl _ _) n⟩
theorem tuples_below (v1 v2 : Value) (xs ys : List (List Int)) (ok : Nat → Prop) (w : World) (h1 : Sl kRow w ok v1 xs) (h2 : Sl kRow w ok v2 ys) :
    Calls Tryz.prog 42 #[v1, v2] w fun e w' => e = .returned (.bool (decide (xs = ys))) ∧ Below w.heap.size w w' :=
  (tuples_any v1 v2 xs ys ok w h1 h2).mono fun e w' ⟨h, n, hw⟩ => ⟨h, by rw [hw]; exact below_drewN (Below.refl _ _) n⟩
/-- A loop over two rows that are held against each other: how far it is. -/
def SamRel {α : Type} [DecidableEq α] (w : World) (xs ys : List α) (g : Nat) (v : Value) (wr : World) : Prop :=
  ∃ k : Nat, v = .int .i64 k ∧ k ≤ xs.length ∧ Hid (decide (xs = ys) = decide (xs.drop k = ys.drop k)) ∧ Below w.heap.size w wr ∧ g = xs.length - k

set_option maxRecDepth 100000 in
set_option maxHeartbeats 4000000 in
theorem same_any (dv hv sv dv' hv' sv' : Value) (x y : Ins) (ok : Nat → Prop) (w : World) (h1 : InsAt w ok dv hv sv x) (h2 : InsAt w ok dv' hv' sv' y) :
    Calls Tryz.prog 17 #[.agg #[dv, hv, sv], .agg #[dv', hv', sv']] w fun e w' => e = .returned (.bool (decide (x = y))) ∧ Below w.heap.size w w' := by
  obtain ⟨hD, hH, hS⟩ := h1
  obtain ⟨hD', hH', hS'⟩ := h2
  have HD := Lib.hid hD
  have HH := Lib.hid hH
  have HS := Lib.hid hS
  have HD' := Lib.hid hD'
  have HH' := Lib.hid hH'
  have HS' := Lib.hid hS'
  obtain ⟨DA, Dc, rfl, hc1, hm1, _⟩ := hD
  obtain ⟨HA, Hc, rfl, hc2, hm2, _⟩ := hH
  obtain ⟨SA, Sc, rfl, hc3, hm3, _⟩ := hS
  obtain ⟨DA', Dc', rfl, hc1', hm1', _⟩ := hD'
  obtain ⟨HA', Hc', rfl, hc2', hm2', _⟩ := hH'
  obtain ⟨SA', Sc', rfl, hc3', hm3', _⟩ := hS'
  go_enter Tryz.func17, Tryz.ntmps17
  have hb0 : Below w.heap.size w ((w.alloc (.cells #[.slice DA x.doms.length Dc, .slice HA x.hard.length Hc, .slice SA x.soft.length Sc] 26)).alloc (.cells #[.slice DA' y.doms.length Dc', .slice HA' y.hard.length Hc', .slice SA' y.soft.length Sc'] 26)) :=
    ((Below.refl _ _).alloc (Nat.le_refl _) _).alloc (by simp) _
  have hx0 : ((w.alloc (.cells #[.slice DA x.doms.length Dc, .slice HA x.hard.length Hc, .slice SA x.soft.length Sc] 26)).alloc (.cells #[.slice DA' y.doms.length Dc', .slice HA' y.hard.length Hc', .slice SA' y.soft.length Sc'] 26)).heap[w.heap.size]? = some (.cells #[.slice DA x.doms.length Dc, .slice HA x.hard.length Hc, .slice SA x.soft.length Sc] 26 (0, 0)) :=
    block_kept (below_alloc1 _ _) (heap_alloc_new w _)
  have hy0 : ((w.alloc (.cells #[.slice DA x.doms.length Dc, .slice HA x.hard.length Hc, .slice SA x.soft.length Sc] 26)).alloc (.cells #[.slice DA' y.doms.length Dc', .slice HA' y.hard.length Hc', .slice SA' y.soft.length Sc'] 26)).heap[w.heap.size + 1]? = some (.cells #[.slice DA' y.doms.length Dc', .slice HA' y.hard.length Hc', .slice SA' y.soft.length Sc'] 26 (0, 0)) := by
    have := heap_alloc_new (w.alloc (.cells #[.slice DA x.doms.length Dc, .slice HA x.hard.length Hc, .slice SA x.soft.length Sc] 26)) (.cells #[.slice DA' y.doms.length Dc', .slice HA' y.hard.length Hc', .slice SA' y.soft.length Sc'] 26)
    simpa using this
  have HT := Lib.hid (tuples_below _ _ _ _ ok _ (HD.out.below (by decide) hb0) (HD'.out.below (by decide) hb0))
  have HB := Lib.hid hb0
  have HX := Lib.hid hx0
  have HY := Lib.hid hy0
  have hs0 : w.heap.size + 2 ≤ ((w.alloc (.cells #[.slice DA x.doms.length Dc, .slice HA x.hard.length Hc, .slice SA x.soft.length Sc] 26)).alloc (.cells #[.slice DA' y.doms.length Dc', .slice HA' y.hard.length Hc', .slice SA' y.soft.length Sc'] 26)).heap.size := by simp
  have HS0 := Lib.hid hs0
  have HSM := Lib.hid (same_ins x y)
  clear hb0 hx0 hy0 hs0
  cases hq1 : decide (x.doms = y.doms)
  · rw [hq1] at HT
    have HQ1 := Lib.hid hq1
    clear hq1
    go_wp2_with (go_at_call 42; refine HT.out.mono ?_; rintro e w' ⟨rfl, hg⟩; (have h0 := block_kept hg HX.out); (have h1 := block_kept hg HY.out); (have HB2 := Lib.hid (below_next HB.out hg)); (have x0 := cell_at h0 (i := 0) rfl); (have x1 := cell_at h0 (i := 1) rfl); (have x2 := cell_at h0 (i := 2) rfl); (have y0 := cell_at h1 (i := 0) rfl); (have y1 := cell_at h1 (i := 1) rfl); (have y2 := cell_at h1 (i := 2) rfl); (have HX2 := Lib.hid h0); (have HY2 := Lib.hid h1); (have HS2 := Lib.hid (Nat.le_trans HS0.out hg.size)); clear h0 h1 hg HX HY HB HS0)
    go_ret
    exact ⟨ret_bool (by rw [HSM.out, HQ1.out]; rfl), HB2.out⟩
  · by_cases hq2 : x.hard.length = y.hard.length
    · have hb2 : ((x.hard.length : Int) != y.hard.length) = false := by simp [hq2]
      by_cases hq3 : x.soft.length = y.soft.length
      · have hb3 : ((x.soft.length : Int) != y.soft.length) = false := by simp [hq3]
        have HL2 := Lib.hid hq2
        have HL3 := Lib.hid hq3
        clear hq2 hq3
        rw [hq1] at HT
        have HQ1 := Lib.hid hq1
        clear hq1
        go_wp2_with (go_at_call 42; refine HT.out.mono ?_; rintro e w' ⟨rfl, hg⟩; (have h0 := block_kept hg HX.out); (have h1 := block_kept hg HY.out); (have HB2 := Lib.hid (below_next HB.out hg)); (have x0 := cell_at h0 (i := 0) rfl); (have x1 := cell_at h0 (i := 1) rfl); (have x2 := cell_at h0 (i := 2) rfl); (have y0 := cell_at h1 (i := 0) rfl); (have y1 := cell_at h1 (i := 1) rfl); (have y2 := cell_at h1 (i := 2) rfl); (have HX2 := Lib.hid h0); (have HY2 := Lib.hid h1); (have HS2 := Lib.hid (Nat.le_trans HS0.out hg.size)); clear h0 h1 hg HX HY HB HS0)
        clear hb2 hb3 x0 x1 x2 y0 y1 y2
        go_loopg [5] x.hard.length (fun g v wr => SamRel w' x.hard y.hard g v wr)
        case atStart => exact ⟨0, rfl, by omega, Lib.hid rfl, Below.refl _ _, rfl⟩
        case round =>
          obtain ⟨k, rfl, hk, H, hg, hgk⟩ := hrel
          have HGK := Lib.hid hgk
          have hl3 : w.heap.size + 2 ≤ wr.heap.size := Nat.le_trans HS2.out hg.size
          have h0 := block_kept hg HX2.out
          have h1 := block_kept hg HY2.out
          have x1 := cell_at h0 (i := 1) rfl
          have y1 := cell_at h1 (i := 1) rfl
          have HG := Lib.hid hg
          have HBR := Lib.hid (below_next HB2.out hg)
          have HX3 := Lib.hid h0
          have HY3 := Lib.hid h1
          clear h0 h1 hg hgk
          by_cases hlt : k < x.hard.length
          · obtain ⟨b, o, cs, rfl, _, hK, hcell⟩ := (HH.out.below (by decide) HBR.out).elems k (nth default x.hard k) (nth_get default x.hard k hlt)
            have hlt' : k < y.hard.length := by have := HL2.out; omega
            obtain ⟨b', o', cs', rfl, _, hK', hcell'⟩ := (HH'.out.below (by decide) HBR.out).elems k (nth default y.hard k) (nth_get default y.hard k hlt')
            obtain ⟨vs, vr, va, rfl, e1, e2, e3⟩ := kCon_cells hK
            obtain ⟨vs', vr', va', rfl, e1', e2', e3'⟩ := kCon_cells hK'
            have H' := Lib.hid (drop_sameG default x.hard y.hard k hlt hlt')
            have HC := Lib.hid (same_con (nth default x.hard k) (nth default y.hard k))
            generalize nth default x.hard k = c at *
            generalize nth default y.hard k = d at *
            have f0 := hcell 0 _ rfl
            have f1 := hcell 1 _ rfl
            have f2 := hcell 2 _ rfl
            have f3 := hcell 3 _ rfl
            have f0' := hcell' 0 _ rfl
            have f1' := hcell' 1 _ rfl
            have f2' := hcell' 2 _ rfl
            have f3' := hcell' 3 _ rfl
            simp only [show kCon.sz = 4 from rfl, Nat.add_zero, ← Nat.add_assoc] at f0 f1 f2 f3 f0' f1' f2' f3'
            have E1 := Lib.hid e1
            have E2 := Lib.hid e2
            have E3 := Lib.hid e3
            have E1' := Lib.hid e1'
            have E2' := Lib.hid e2'
            have E3' := Lib.hid e3'
            obtain ⟨_, _, rfl, _, _, _⟩ := e1
            obtain ⟨_, _, rfl, _, _, _⟩ := e2
            obtain ⟨_, _, rfl, _, _, _⟩ := e3
            obtain ⟨_, _, rfl, _, _, _⟩ := e1'
            obtain ⟨_, _, rfl, _, _, _⟩ := e2'
            obtain ⟨_, _, rfl, _, _, _⟩ := e3'
            clear hcell hcell' hK hK' HH HH'
            have hn1 := heap_alloc_new wr (.cells #[.int .i64 0, .slice none 0 0, .slice none 0 0, .slice none 0 0] 43)
            have HN1 := Lib.hid hn1
            clear hn1
            go_wp2_with (refine wpList_store_abs rfl 43 _ _ rfl wr.heap.size _ rfl rfl 43 _ HN1.out (by kernel_rfl) rfl (by simp [Value.oneCell']) ?_)
            intro W hW hgr
            have hbw := below_store hgr
            have h0 := block_kept hbw HX3.out
            have h1 := block_kept hbw HY3.out
            have y1' := cell_at h1 (i := 1) rfl
            have g0' := (cell_below hbw f0')
            have g1' := (cell_below hbw f1')
            have g2' := (cell_below hbw f2')
            have g3' := (cell_below hbw f3')
            have HBW := Lib.hid hbw
            have HW1 := Lib.hid hW
            clear h0 h1 hbw f0 f1 f2 f3 f0' f1' f2' f3' x1 y1 hgr hW HN1
            have hn1 := heap_alloc_new W (.cells #[.int .i64 0, .slice none 0 0, .slice none 0 0, .slice none 0 0] 43)
            have HN1 := Lib.hid hn1
            clear hn1
            go_wp2_with (refine wpList_store_abs rfl 43 _ _ rfl W.heap.size _ rfl rfl 43 _ HN1.out (by kernel_rfl) rfl (by simp [Value.oneCell']) ?_)
            intro W2 hW2 hgr
            have hbw := below_store hgr
            have HC1 := Lib.hid (block_kept hbw HW1.out)
            have HC2 := Lib.hid hW2
            have HBW2 := Lib.hid (below_next HBW.out hbw)
            have HI1 := Lib.hid (fun W3 (hb : Below W2.heap.size W2 W3) => ints_below _ _ _ _ ok W3 (E1.out.below (by decide) (below_next HBW2.out hb)) (E1'.out.below (by decide) (below_next HBW2.out hb)))
            have HI2 := Lib.hid (fun W3 (hb : Below W2.heap.size W2 W3) => ints_below _ _ _ _ ok W3 (E3.out.below (by decide) (below_next HBW2.out hb)) (E3'.out.below (by decide) (below_next HBW2.out hb)))
            have HT3 := Lib.hid (fun W3 (hb : Below W2.heap.size W2 W3) => tuples_below _ _ _ _ ok W3 (E2.out.below (by decide) (below_next HBW2.out hb)) (E2'.out.below (by decide) (below_next HBW2.out hb)))
            have HBC := Lib.hid (Below.refl W2.heap.size W2)
            have c0 := cell_at hW2 (i := 0) rfl
            have c1 := cell_at hW2 (i := 1) rfl
            have d0 := cell_at HC1.out (i := 0) rfl
            have d1 := cell_at HC1.out (i := 1) rfl
            clear hW2 hgr hbw g0' g1' g2' g3' y1' HN1 HW1 HBW E1 E1' E2 E2' E3 E3'
            by_cases hk1 : c.kind = d.kind
            · have hb1 : (c.kind != d.kind) = false := by simp [hk1]
              rw [decide_eq_true hk1] at HC
              clear hk1
              cases hs : decide (c.scope = d.scope)
              · rw [hs] at HI1 HC
                clear hs
                go_wp2_with (first
                  | (go_at_call 43; refine (HI1.out _ HBC.out).mono ?_; rintro e w3 ⟨rfl, hb⟩; (have HBD := Lib.hid (below_next HBC.out hb)); (have c3 := cell_at (block_kept HBD.out HC2.out) (i := 3) rfl); (have d3 := cell_at (block_kept HBD.out HC1.out) (i := 3) rfl); clear HI1 HBC c0 c1 d0 d1 hb)
                  | (go_at_call 43; refine (HI2.out _ HBD.out).mono ?_; rintro e w4 ⟨rfl, hb⟩; (have HBE := Lib.hid (below_next HBD.out hb)); (have c2 := cell_at (block_kept HBE.out HC2.out) (i := 2) rfl); (have d2 := cell_at (block_kept HBE.out HC1.out) (i := 2) rfl); clear HI2 HBD c3 d3 hb)
                  | (go_at_call 42; refine (HT3.out _ HBE.out).mono ?_; rintro e w5 ⟨rfl, hb⟩; (have HBF := Lib.hid (below_next HBE.out hb)); clear HT3 HBE c2 d2 hb))
                go_ret
                exact ⟨ret_bool (by rw [HSM.out, H.out, H'.out, HC.out]; simp), below_next (below_next HBR.out HBW2.out) HBD.out⟩
              · cases hs2 : decide (c.args = d.args)
                · rw [hs2] at HI2 HC
                  clear hs2
                  rw [hs] at HI1 HC
                  clear hs
                  go_wp2_with (first
                    | (go_at_call 43; refine (HI1.out _ HBC.out).mono ?_; rintro e w3 ⟨rfl, hb⟩; (have HBD := Lib.hid (below_next HBC.out hb)); (have c3 := cell_at (block_kept HBD.out HC2.out) (i := 3) rfl); (have d3 := cell_at (block_kept HBD.out HC1.out) (i := 3) rfl); clear HI1 HBC c0 c1 d0 d1 hb)
                    | (go_at_call 43; refine (HI2.out _ HBD.out).mono ?_; rintro e w4 ⟨rfl, hb⟩; (have HBE := Lib.hid (below_next HBD.out hb)); (have c2 := cell_at (block_kept HBE.out HC2.out) (i := 2) rfl); (have d2 := cell_at (block_kept HBE.out HC1.out) (i := 2) rfl); clear HI2 HBD c3 d3 hb)
                    | (go_at_call 42; refine (HT3.out _ HBE.out).mono ?_; rintro e w5 ⟨rfl, hb⟩; (have HBF := Lib.hid (below_next HBE.out hb)); clear HT3 HBE c2 d2 hb))
                  go_ret
                  exact ⟨ret_bool (by rw [HSM.out, H.out, H'.out, HC.out]; simp), below_next (below_next HBR.out HBW2.out) HBE.out⟩
                · rw [hs2] at HI2 HC
                  clear hs2
                  cases hs3 : decide (c.rows = d.rows)
                  · rw [hs3] at HT3 HC
                    clear hs3
                    rw [hs] at HI1 HC
                    clear hs
                    go_wp2_with (first
                      | (go_at_call 43; refine (HI1.out _ HBC.out).mono ?_; rintro e w3 ⟨rfl, hb⟩; (have HBD := Lib.hid (below_next HBC.out hb)); (have c3 := cell_at (block_kept HBD.out HC2.out) (i := 3) rfl); (have d3 := cell_at (block_kept HBD.out HC1.out) (i := 3) rfl); clear HI1 HBC c0 c1 d0 d1 hb)
                      | (go_at_call 43; refine (HI2.out _ HBD.out).mono ?_; rintro e w4 ⟨rfl, hb⟩; (have HBE := Lib.hid (below_next HBD.out hb)); (have c2 := cell_at (block_kept HBE.out HC2.out) (i := 2) rfl); (have d2 := cell_at (block_kept HBE.out HC1.out) (i := 2) rfl); clear HI2 HBD c3 d3 hb)
                      | (go_at_call 42; refine (HT3.out _ HBE.out).mono ?_; rintro e w5 ⟨rfl, hb⟩; (have HBF := Lib.hid (below_next HBE.out hb)); clear HT3 HBE c2 d2 hb))
                    go_ret
                    exact ⟨ret_bool (by rw [HSM.out, H.out, H'.out, HC.out]; simp), below_next (below_next HBR.out HBW2.out) HBF.out⟩
                  · rw [hs3] at HT3 HC
                    clear hs3
                    rw [hs] at HI1 HC
                    clear hs
                    go_wp2_with (first
                      | (go_at_call 43; refine (HI1.out _ HBC.out).mono ?_; rintro e w3 ⟨rfl, hb⟩; (have HBD := Lib.hid (below_next HBC.out hb)); (have c3 := cell_at (block_kept HBD.out HC2.out) (i := 3) rfl); (have d3 := cell_at (block_kept HBD.out HC1.out) (i := 3) rfl); clear HI1 HBC c0 c1 d0 d1 hb)
                      | (go_at_call 43; refine (HI2.out _ HBD.out).mono ?_; rintro e w4 ⟨rfl, hb⟩; (have HBE := Lib.hid (below_next HBD.out hb)); (have c2 := cell_at (block_kept HBE.out HC2.out) (i := 2) rfl); (have d2 := cell_at (block_kept HBE.out HC1.out) (i := 2) rfl); clear HI2 HBD c3 d3 hb)
                      | (go_at_call 42; refine (HT3.out _ HBE.out).mono ?_; rintro e w5 ⟨rfl, hb⟩; (have HBF := Lib.hid (below_next HBE.out hb)); clear HT3 HBE c2 d2 hb))
                    go_roundg (x.hard.length - (k + 1))
                    case rel => exact ⟨k + 1, by go_num, by omega, Lib.hid (by rw [H.out, H'.out, HC.out]; simp), below_next (below_next HG.out HBW2.out) HBF.out, rfl⟩
                    case measure => have := HGK.out; omega
            · have hb1 : (c.kind != d.kind) = true := by simp [hk1]
              rw [decide_eq_false hk1] at HC
              clear hk1
              go_wp2
              go_ret
              exact ⟨ret_bool (by rw [HSM.out, H.out, H'.out, HC.out]; simp), below_next HBR.out HBW2.out⟩
          · have HQ2 : Hid (decide (x.hard = y.hard) = true) := Lib.hid (by rw [H.out, List.drop_eq_nil_of_le (by omega), List.drop_eq_nil_of_le (by have := HL2.out; omega)]; rfl)
            have x2 := cell_at HX3.out (i := 2) rfl
            have y2 := cell_at HY3.out (i := 2) rfl
            clear H HH HH' HX2 HY2 HGK HL2
            go_wp2
            clear x1 y1 x2 y2 hlt hk
            go_loopg [8] x.soft.length (fun g v wr2 => SamRel wr x.soft y.soft g v wr2)
            case atStart => exact ⟨0, rfl, by omega, Lib.hid rfl, Below.refl _ _, rfl⟩
            case round =>
              obtain ⟨k2, rfl, hk, H, hg, hgk⟩ := hrel
              have HGK := Lib.hid hgk
              have hl4 : w.heap.size + 2 ≤ wr.heap.size := Nat.le_trans hl3 hg.size
              have h0 := block_kept hg HX3.out
              have h1 := block_kept hg HY3.out
              have x1 := cell_at h0 (i := 2) rfl
              have y1 := cell_at h1 (i := 2) rfl
              have HG2 := Lib.hid hg
              have HBR2 := Lib.hid (below_next HBR.out hg)
              have HX4 := Lib.hid h0
              have HY4 := Lib.hid h1
              clear h0 h1 hg hgk
              by_cases hlt : k2 < x.soft.length
              · obtain ⟨b, o, cs, rfl, _, hK, hcell⟩ := (HS.out.below (by decide) HBR2.out).elems k2 (nth default x.soft k2) (nth_get default x.soft k2 hlt)
                have hlt' : k2 < y.soft.length := by have := HL3.out; omega
                obtain ⟨b', o', cs', rfl, _, hK', hcell'⟩ := (HS'.out.below (by decide) HBR2.out).elems k2 (nth default y.soft k2) (nth_get default y.soft k2 hlt')
                obtain ⟨vs, vr, vc, rfl, e1, e2, e3⟩ := kSft_cells hK
                obtain ⟨vs', vr', vc', rfl, e1', e2', e3'⟩ := kSft_cells hK'
                have H' := Lib.hid (drop_sameG default x.soft y.soft k2 hlt hlt')
                have HC := Lib.hid (same_sft (nth default x.soft k2) (nth default y.soft k2))
                generalize nth default x.soft k2 = c at *
                generalize nth default y.soft k2 = d at *
                have f0 := hcell 0 _ rfl
                have f1 := hcell 1 _ rfl
                have f2 := hcell 2 _ rfl
                have f3 := hcell 3 _ rfl
                have f0' := hcell' 0 _ rfl
                have f1' := hcell' 1 _ rfl
                have f2' := hcell' 2 _ rfl
                have f3' := hcell' 3 _ rfl
                simp only [show kSft.sz = 4 from rfl, Nat.add_zero, ← Nat.add_assoc] at f0 f1 f2 f3 f0' f1' f2' f3'
                have E1 := Lib.hid e1
                have E2 := Lib.hid e2
                have E3 := Lib.hid e3
                have E1' := Lib.hid e1'
                have E2' := Lib.hid e2'
                have E3' := Lib.hid e3'
                obtain ⟨_, _, rfl, _, _, _⟩ := e1
                obtain ⟨_, _, rfl, _, _, _⟩ := e2
                obtain ⟨CA, Cc, rfl, hcc, hcm, _⟩ := e3
                obtain ⟨_, _, rfl, _, _, _⟩ := e1'
                obtain ⟨_, _, rfl, _, _, _⟩ := e2'
                obtain ⟨CA', Cc', rfl, hcc', hcm', _⟩ := e3'
                clear hcell hcell' hK hK' HS HS'
                have hn1 := heap_alloc_new wr (.cells #[.slice none 0 0, .slice none 0 0, .slice none 0 0, .int .i64 0] 47)
                have HN1 := Lib.hid hn1
                clear hn1
                go_wp2_with (refine wpList_store_abs rfl 47 _ _ rfl wr.heap.size _ rfl rfl 47 _ HN1.out (by kernel_rfl) rfl (by simp [Value.oneCell']) ?_)
                intro W hW hgr
                have hbw := below_store hgr
                have h0 := block_kept hbw HX4.out
                have h1 := block_kept hbw HY4.out
                have y1' := cell_at h1 (i := 2) rfl
                have g0' := (cell_below hbw f0')
                have g1' := (cell_below hbw f1')
                have g2' := (cell_below hbw f2')
                have g3' := (cell_below hbw f3')
                have HBW := Lib.hid hbw
                have HW1 := Lib.hid hW
                clear h0 h1 hbw f0 f1 f2 f3 f0' f1' f2' f3' x1 y1 hgr hW HN1
                have hn1 := heap_alloc_new W (.cells #[.slice none 0 0, .slice none 0 0, .slice none 0 0, .int .i64 0] 47)
                have HN1 := Lib.hid hn1
                clear hn1
                go_wp2_with (refine wpList_store_abs rfl 47 _ _ rfl W.heap.size _ rfl rfl 47 _ HN1.out (by kernel_rfl) rfl (by simp [Value.oneCell']) ?_)
                intro W2 hW2 hgr
                have hbw := below_store hgr
                have HC1 := Lib.hid (block_kept hbw HW1.out)
                have HC2 := Lib.hid hW2
                have HBW2 := Lib.hid (below_next HBW.out hbw)
                have HI1 := Lib.hid (fun W3 (hb : Below W2.heap.size W2 W3) => ints_below _ _ _ _ ok W3 (E1.out.below (by decide) (below_next HBW2.out hb)) (E1'.out.below (by decide) (below_next HBW2.out hb)))
                have HT3 := Lib.hid (fun W3 (hb : Below W2.heap.size W2 W3) => tuples_below _ _ _ _ ok W3 (E2.out.below (by decide) (below_next HBW2.out hb)) (E2'.out.below (by decide) (below_next HBW2.out hb)))
                have HBC := Lib.hid (Below.refl W2.heap.size W2)
                have c0 := cell_at hW2 (i := 0) rfl
                have d0 := cell_at HC1.out (i := 0) rfl
                clear hW2 hgr hbw g0' g1' g2' g3' y1' HN1 HW1 HBW E1 E1' E2 E2'
                cases hs : decide (c.scope = d.scope)
                · rw [hs] at HI1 HC
                  clear hs
                  go_wp2_with (first
                    | (go_at_call 43; refine (HI1.out _ HBC.out).mono ?_; rintro e w3 ⟨rfl, hb⟩; (have HBD := Lib.hid (below_next HBC.out hb)); (have c1 := cell_at (block_kept HBD.out HC2.out) (i := 1) rfl); (have d1 := cell_at (block_kept HBD.out HC1.out) (i := 1) rfl); clear HI1 HBC c0 d0 hb)
                    | (go_at_call 42; refine (HT3.out _ HBD.out).mono ?_; rintro e w4 ⟨rfl, hb⟩; (have HBE := Lib.hid (below_next HBD.out hb)); (have HX5 := Lib.hid (block_kept HBE.out HC2.out)); (have HY5 := Lib.hid (block_kept HBE.out HC1.out)); (have c2 := cell_at HX5.out (i := 2) rfl); (have d2 := cell_at HY5.out (i := 2) rfl); (have c3 := cell_at HX5.out (i := 3) rfl); (have d3 := cell_at HY5.out (i := 3) rfl); clear HT3 HBD c1 d1 hb))
                  go_ret
                  exact ⟨ret_bool (by rw [HSM.out, H.out, H'.out, HC.out]; simp), below_next (below_next HBR2.out HBW2.out) HBD.out⟩
                · cases hs2 : decide (c.rows = d.rows)
                  · rw [hs2] at HT3 HC
                    clear hs2
                    rw [hs] at HI1 HC
                    clear hs
                    go_wp2_with (first
                      | (go_at_call 43; refine (HI1.out _ HBC.out).mono ?_; rintro e w3 ⟨rfl, hb⟩; (have HBD := Lib.hid (below_next HBC.out hb)); (have c1 := cell_at (block_kept HBD.out HC2.out) (i := 1) rfl); (have d1 := cell_at (block_kept HBD.out HC1.out) (i := 1) rfl); clear HI1 HBC c0 d0 hb)
                      | (go_at_call 42; refine (HT3.out _ HBD.out).mono ?_; rintro e w4 ⟨rfl, hb⟩; (have HBE := Lib.hid (below_next HBD.out hb)); (have HX5 := Lib.hid (block_kept HBE.out HC2.out)); (have HY5 := Lib.hid (block_kept HBE.out HC1.out)); (have c2 := cell_at HX5.out (i := 2) rfl); (have d2 := cell_at HY5.out (i := 2) rfl); (have c3 := cell_at HX5.out (i := 3) rfl); (have d3 := cell_at HY5.out (i := 3) rfl); clear HT3 HBD c1 d1 hb))
                    go_ret
                    exact ⟨ret_bool (by rw [HSM.out, H.out, H'.out, HC.out]; simp), below_next (below_next HBR2.out HBW2.out) HBE.out⟩
                  · rw [hs2] at HT3 HC
                    clear hs2
                    by_cases hk1 : c.dflt = d.dflt
                    · have hb1 : (c.dflt != d.dflt) = false := by simp [hk1]
                      rw [decide_eq_true hk1] at HC
                      clear hk1
                      by_cases hk4 : c.costs.length = d.costs.length
                      · have hb4 : ((c.costs.length : Int) != d.costs.length) = false := by simp [hk4]
                        have HL4 := Lib.hid hk4
                        clear hk4
                        rw [hs] at HI1 HC
                        clear hs
                        go_wp2_with (first
                          | (go_at_call 43; refine (HI1.out _ HBC.out).mono ?_; rintro e w3 ⟨rfl, hb⟩; (have HBD := Lib.hid (below_next HBC.out hb)); (have c1 := cell_at (block_kept HBD.out HC2.out) (i := 1) rfl); (have d1 := cell_at (block_kept HBD.out HC1.out) (i := 1) rfl); clear HI1 HBC c0 d0 hb)
                          | (go_at_call 42; refine (HT3.out _ HBD.out).mono ?_; rintro e w4 ⟨rfl, hb⟩; (have HBE := Lib.hid (below_next HBD.out hb)); (have HX5 := Lib.hid (block_kept HBE.out HC2.out)); (have HY5 := Lib.hid (block_kept HBE.out HC1.out)); (have c2 := cell_at HX5.out (i := 2) rfl); (have d2 := cell_at HY5.out (i := 2) rfl); (have c3 := cell_at HX5.out (i := 3) rfl); (have d3 := cell_at HY5.out (i := 3) rfl); clear HT3 HBD c1 d1 hb))
                        have E4 := Lib.hid (E3.out.below (by decide) (below_next HBW2.out HBE.out))
                        have E4' := Lib.hid (E3'.out.below (by decide) (below_next HBW2.out HBE.out))
                        have HW4 := Lib.hid (below_next HBW2.out HBE.out)
                        clear c2 d2 c3 d3 hb4 hb1 E3 E3' HC1 HC2 HBE
                        go_loopg [11] c.costs.length (fun g v wr3 => SamRel w4 c.costs d.costs g v wr3)
                        case atStart => exact ⟨0, rfl, by omega, Lib.hid rfl, Below.refl _ _, rfl⟩
                        case round =>
                          obtain ⟨k3, rfl, hk3, HE, hg, hgk⟩ := hrel
                          have HGK3 := Lib.hid hgk
                          have h0 := block_kept hg HX5.out
                          have h1 := block_kept hg HY5.out
                          have c2 := cell_at h0 (i := 2) rfl
                          have d2 := cell_at h1 (i := 2) rfl
                          have HG3 := Lib.hid hg
                          clear h0 h1 hg hgk
                          by_cases hlt3 : k3 < c.costs.length
                          · have hlt3' : k3 < d.costs.length := by have := HL4.out; omega
                            obtain ⟨b3, o3, rfl, hc3⟩ := (E4.out.below (by decide) HG3.out).elems.num hlt3
                            obtain ⟨b4, o4, rfl, hc4⟩ := (E4'.out.below (by decide) HG3.out).elems.num hlt3'
                            have HE' := Lib.hid (drop_sameG (0 : Int) c.costs d.costs k3 hlt3 hlt3')
                            clear E4 E4'
                            by_cases hq : nth 0 c.costs k3 = nth 0 d.costs k3
                            · have hb : (nth 0 c.costs k3 != nth 0 d.costs k3) = false := by simp [hq]
                              rw [decide_eq_true hq] at HE'
                              clear hq
                              go_wp2
                              go_quiet (fail)
                              go_wp2
                              go_roundg (c.costs.length - (k3 + 1))
                              case rel => exact ⟨k3 + 1, by go_num, by omega, Lib.hid (by rw [HE.out, HE'.out]; simp), below_drewN HG3.out _, rfl⟩
                              case measure => have := HGK3.out; omega
                            · have hb : (nth 0 c.costs k3 != nth 0 d.costs k3) = true := by simp [hq]
                              rw [decide_eq_false hq] at HE'
                              clear hq
                              go_wp2
                              go_quiet (fail)
                              go_wp2
                              go_ret
                              exact ⟨ret_bool (by rw [HSM.out, H.out, H'.out, HC.out, HE.out, HE'.out]; simp), below_drewN (below_next (below_next HBR2.out HW4.out) HG3.out) _⟩
                          · have HE' : Hid (decide (c.costs = d.costs) = true) := Lib.hid (by rw [HE.out, List.drop_eq_nil_of_le (by omega), List.drop_eq_nil_of_le (by have := HL4.out; omega)]; rfl)
                            go_wp2
                            go_roundg (x.soft.length - (k2 + 1))
                            case rel => exact ⟨k2 + 1, by go_num, by omega, Lib.hid (by rw [H.out, H'.out, HC.out, HE'.out]; simp), below_next (below_next HG2.out HW4.out) HG3.out, rfl⟩
                            case measure => have := HGK.out; omega
                      · have hb4 : ((c.costs.length : Int) != d.costs.length) = true := by simp; omega
                        rw [decide_eq_false (p := c.costs = d.costs) (fun e => hk4 (by rw [e]))] at HC
                        clear hk4
                        rw [hs] at HI1 HC
                        clear hs
                        go_wp2_with (first
                          | (go_at_call 43; refine (HI1.out _ HBC.out).mono ?_; rintro e w3 ⟨rfl, hb⟩; (have HBD := Lib.hid (below_next HBC.out hb)); (have c1 := cell_at (block_kept HBD.out HC2.out) (i := 1) rfl); (have d1 := cell_at (block_kept HBD.out HC1.out) (i := 1) rfl); clear HI1 HBC c0 d0 hb)
                          | (go_at_call 42; refine (HT3.out _ HBD.out).mono ?_; rintro e w4 ⟨rfl, hb⟩; (have HBE := Lib.hid (below_next HBD.out hb)); (have HX5 := Lib.hid (block_kept HBE.out HC2.out)); (have HY5 := Lib.hid (block_kept HBE.out HC1.out)); (have c2 := cell_at HX5.out (i := 2) rfl); (have d2 := cell_at HY5.out (i := 2) rfl); (have c3 := cell_at HX5.out (i := 3) rfl); (have d3 := cell_at HY5.out (i := 3) rfl); clear HT3 HBD c1 d1 hb))
                        go_ret
                        exact ⟨ret_bool (by rw [HSM.out, H.out, H'.out, HC.out]; simp), below_next (below_next HBR2.out HBW2.out) HBE.out⟩
                    · have hb1 : (c.dflt != d.dflt) = true := by simp [hk1]
                      rw [decide_eq_false hk1] at HC
                      clear hk1
                      rw [hs] at HI1 HC
                      clear hs
                      go_wp2_with (first
                        | (go_at_call 43; refine (HI1.out _ HBC.out).mono ?_; rintro e w3 ⟨rfl, hb⟩; (have HBD := Lib.hid (below_next HBC.out hb)); (have c1 := cell_at (block_kept HBD.out HC2.out) (i := 1) rfl); (have d1 := cell_at (block_kept HBD.out HC1.out) (i := 1) rfl); clear HI1 HBC c0 d0 hb)
                        | (go_at_call 42; refine (HT3.out _ HBD.out).mono ?_; rintro e w4 ⟨rfl, hb⟩; (have HBE := Lib.hid (below_next HBD.out hb)); (have HX5 := Lib.hid (block_kept HBE.out HC2.out)); (have HY5 := Lib.hid (block_kept HBE.out HC1.out)); (have c2 := cell_at HX5.out (i := 2) rfl); (have d2 := cell_at HY5.out (i := 2) rfl); (have c3 := cell_at HX5.out (i := 3) rfl); (have d3 := cell_at HY5.out (i := 3) rfl); clear HT3 HBD c1 d1 hb))
                      go_ret
                      exact ⟨ret_bool (by rw [HSM.out, H.out, H'.out, HC.out]; simp), below_next (below_next HBR2.out HBW2.out) HBE.out⟩
              · go_wp2
                go_ret
                exact ⟨ret_bool (by rw [HSM.out, HQ1.out, HQ2.out, H.out, List.drop_eq_nil_of_le (by omega), List.drop_eq_nil_of_le (by have := HL3.out; omega)]; rfl), HBR2.out⟩
      · have hb3 : ((x.soft.length : Int) != y.soft.length) = true := by simp; omega
        have HL3 := Lib.hid hq3
        clear hq2 hq3
        rw [hq1] at HT
        have HQ1 := Lib.hid hq1
        clear hq1
        go_wp2_with (go_at_call 42; refine HT.out.mono ?_; rintro e w' ⟨rfl, hg⟩; (have h0 := block_kept hg HX.out); (have h1 := block_kept hg HY.out); (have HB2 := Lib.hid (below_next HB.out hg)); (have x0 := cell_at h0 (i := 0) rfl); (have x1 := cell_at h0 (i := 1) rfl); (have x2 := cell_at h0 (i := 2) rfl); (have y0 := cell_at h1 (i := 0) rfl); (have y1 := cell_at h1 (i := 1) rfl); (have y2 := cell_at h1 (i := 2) rfl); (have HX2 := Lib.hid h0); (have HY2 := Lib.hid h1); (have HS2 := Lib.hid (Nat.le_trans HS0.out hg.size)); clear h0 h1 hg HX HY HB HS0)
        go_ret
        exact ⟨ret_bool (by rw [HSM.out, decide_eq_false (p := x.soft = y.soft) (fun e => HL3.out (by rw [e]))]; simp), HB2.out⟩
    · have hb2 : ((x.hard.length : Int) != y.hard.length) = true := by simp; omega
      have HL3 := Lib.hid hq2
      clear hq2
      rw [hq1] at HT
      have HQ1 := Lib.hid hq1
      clear hq1
      go_wp2_with (go_at_call 42; refine HT.out.mono ?_; rintro e w' ⟨rfl, hg⟩; (have h0 := block_kept hg HX.out); (have h1 := block_kept hg HY.out); (have HB2 := Lib.hid (below_next HB.out hg)); (have x0 := cell_at h0 (i := 0) rfl); (have x1 := cell_at h0 (i := 1) rfl); (have x2 := cell_at h0 (i := 2) rfl); (have y0 := cell_at h1 (i := 0) rfl); (have y1 := cell_at h1 (i := 1) rfl); (have y2 := cell_at h1 (i := 2) rfl); (have HX2 := Lib.hid h0); (have HY2 := Lib.hid h1); (have HS2 := Lib.hid (Nat.le_trans HS0.out hg.size)); clear h0 h1 hg HX HY HB HS0)
      go_ret
      exact ⟨ret_bool (by rw [HSM.out, decide_eq_false (p := x.hard = y.hard) (fun e => HL3.out (by rw [e]))]; simp), HB2.out⟩
end Go.Proofs.YtoahaigfjfeopaaGreatDoor

/- The texts that 'shown' tries, in plain. -/
namespace Go.Proofs.YtoahaigfjfeopaaGreatDoor
theorem parse_t1 : parseP [118, 97, 114, 32, 48, 32, 49, 59, 32, 100, 105, 102, 102, 32, 48, 59] = .ok ⟨[[0, 1]], [⟨3, [0], [], []⟩], []⟩ := by kernel_rfl
theorem parse_t2 : parseP [118, 97, 114, 32, 48, 32, 49, 59, 32, 100, 105, 102, 102, 32, 49, 59] = .error (14, 5) := by kernel_rfl
theorem parse_t3 : parseP [118, 97, 114, 32, 49, 32, 48, 59] = .error (6, 6) := by kernel_rfl
theorem right_t1 : rightB ⟨[[0, 1]], [⟨3, [0], [], []⟩], []⟩ = true := by kernel_rfl
theorem print_t1 : printP ⟨[[0, 1]], [⟨3, [0], [], []⟩], []⟩ = [118, 97, 114, 32, 48, 32, 49, 59, 10, 100, 105, 102, 102, 32, 48, 59, 10] := by kernel_rfl
end Go.Proofs.YtoahaigfjfeopaaGreatDoor

/- arboristlaw06.shown; the contracts in the form in which the laws use them. -/
namespace Go.Proofs.YtoahaigfjfeopaaGreatDoor
open Go.RowKit
attribute [local irreducible] wpStill wpLex Calls

theorem Env.env0 {w : World} (h : Env w) : Env0 w := ⟨h.syn, h.rng⟩
theorem Env.tabs {w : World} (h : Env w) : Tabs w := ⟨h.words, h.hows⟩
/-- Anywhere. -/
def Any (_ : Nat) : Prop := True
theorem InsAt.below {w w1 : World} {ok : Nat → Prop} {dv hv sv : Value} {y : Ins} (h : InsAt w ok dv hv sv y) (hb : Below w.heap.size w w1) : InsAt w1 ok dv hv sv y :=
  ⟨h.1.below (by decide) hb, h.2.1.below (by decide) hb, h.2.2.below (by decide) hb⟩
theorem InsAt.mono {w : World} {ok ok' : Nat → Prop} {dv hv sv : Value} {y : Ins} (h : InsAt w ok dv hv sv y) (hk : ∀ k, ok k → ok' k) : InsAt w ok' dv hv sv y :=
  ⟨h.1.mono hk, h.2.1.mono hk, h.2.2.mono hk⟩
theorem InsAt.nil (w : World) (ok : Nat → Prop) : InsAt w ok (.slice none 0 0) (.slice none 0 0) (.slice none 0 0) ⟨[], [], []⟩ :=
  ⟨⟨none, 0, rfl, Nat.le_refl _, by simp, fun j x hx => by simp at hx⟩, ⟨none, 0, rfl, Nat.le_refl _, by simp, fun j x hx => by simp at hx⟩, ⟨none, 0, rfl, Nat.le_refl _, by simp, fun j x hx => by simp at hx⟩⟩
theorem reads_ok (l : List UInt8) (y : Ins) (w : World) (hE : Env w) (hl : l.length ≤ 140737488355328) (hq : parseP l = .ok y) :
    Calls Tryz.prog 18 #[.string ⟨l.toArray⟩] w fun e w' => (∃ DA Dc HA Hc SA Sc, e = .returned (.tuple #[.agg #[.slice DA y.doms.length Dc, .slice HA y.hard.length Hc, .slice SA y.soft.length Sc], .int .i64 0, .int .i64 0]) ∧ InsAt w' Any (.slice DA y.doms.length Dc) (.slice HA y.hard.length Hc) (.slice SA y.soft.length Sc) y ∧ y.doms.length ≤ 40 ∧ y.hard.length ≤ 200 ∧ y.soft.length ≤ 200) ∧ Below w.heap.size w w' := by
  refine (parse_any l w hE.env0 hE.tabs hE.size hl).mono ?_
  rintro e w' ⟨h, hb⟩
  rw [hq] at h
  obtain ⟨dv, hv, sv, rfl, hi, h1, h2, h3⟩ := h
  have hi' := hi.mono (ok' := Any) (fun _ _ => trivial)
  obtain ⟨⟨A1, c1, rfl, _⟩, ⟨A2, c2, rfl, _⟩, ⟨A3, c3, rfl, _⟩⟩ := hi
  exact ⟨⟨A1, c1, A2, c2, A3, c3, rfl, hi', h1, h2, h3⟩, hb⟩
theorem reads_err (l : List UInt8) (p x : Int) (w : World) (hE : Env w) (hl : l.length ≤ 140737488355328) (hq : parseP l = .error (p, x)) :
    Calls Tryz.prog 18 #[.string ⟨l.toArray⟩] w fun e w' => e = .returned (.tuple #[.agg #[.slice none 0 0, .slice none 0 0, .slice none 0 0], .int .i64 p, .int .i64 x]) ∧ Below w.heap.size w w' := by
  refine (parse_any l w hE.env0 hE.tabs hE.size hl).mono ?_
  rintro e w' ⟨h, hb⟩
  rw [hq] at h
  exact ⟨h, hb⟩

set_option maxRecDepth 100000 in
set_option maxHeartbeats 4000000 in
theorem shown_any (w : World) (hE : Env w) :
    Calls Tryz.prog 11 #[] w fun e w' => e = .returned (.bool true) ∧ Below w.heap.size w w' := by
  have HE := Lib.hid hE
  have HP := Lib.hid (reads_ok _ _ w hE (by decide) parse_t1)
  clear hE
  go_enter Tryz.func11, Tryz.ntmps11
  go_wp2_with (go_at_call 18; refine HP.out.mono ?_; rintro e w1 ⟨⟨DA, Dc, HA, Hc, SA, Sc, rfl, hi, _⟩, hb⟩; (have HI := Lib.hid hi); (have HB1 := Lib.hid hb); clear hi hb HP)
  have hb1 := HB1.out.alloc HB1.out.size (.cells #[.slice DA 1 Dc, .slice HA 1 Hc, .slice SA 0 Sc] 26)
  have HX1 := Lib.hid (heap_alloc_new w1 (.cells #[.slice DA 1 Dc, .slice HA 1 Hc, .slice SA 0 Sc] 26))
  have HI1 := Lib.hid (HI.out.below (below_alloc1 w1 (.cells #[.slice DA 1 Dc, .slice HA 1 Hc, .slice SA 0 Sc] 26)))
  have HP2 := Lib.hid (reads_err _ _ _ _ (HE.out.below hb1 HE.out.size) (by decide) parse_t2)
  have HB2 := Lib.hid hb1
  clear hb1 HI HB1
  generalize w1.alloc (.cells #[.slice DA 1 Dc, .slice HA 1 Hc, .slice SA 0 Sc] 26) = W1 at *
  refine HP2.out.mono ?_
  rintro e w2 ⟨rfl, hb⟩
  have hb2 := (below_next HB2.out hb).alloc (below_next HB2.out hb).size (.cells #[.slice none 0 0, .slice none 0 0, .slice none 0 0] 26)
  have hk2 := hb.alloc hb.size (.cells #[.slice none 0 0, .slice none 0 0, .slice none 0 0] 26)
  have HX2 := Lib.hid (block_kept hk2 HX1.out)
  have HI2 := Lib.hid (HI1.out.below hk2)
  have HP3 := Lib.hid (reads_err _ _ _ _ (HE.out.below hb2 HE.out.size) (by decide) parse_t3)
  have HB3 := Lib.hid hb2
  clear hb hb2 hk2 HP2 HB2 HX1 HI1
  go_wp2_with fail
  generalize w2.alloc (.cells #[.slice none 0 0, .slice none 0 0, .slice none 0 0] 26) = W2 at *
  refine HP3.out.mono ?_
  rintro e w3 ⟨rfl, hb⟩
  have hb2 := (below_next HB3.out hb).alloc (below_next HB3.out hb).size (.cells #[.slice none 0 0, .slice none 0 0, .slice none 0 0] 26)
  have hk2 := hb.alloc hb.size (.cells #[.slice none 0 0, .slice none 0 0, .slice none 0 0] 26)
  have HX3 := Lib.hid (block_kept hk2 HX2.out)
  have HI3 := Lib.hid (HI2.out.below hk2)
  have HB4 := Lib.hid hb2
  clear hb hb2 hk2 HP3 HB3 HX2 HI2
  have x0 := cell_at HX3.out (i := 0) rfl
  have x1 := cell_at HX3.out (i := 1) rfl
  have x2 := cell_at HX3.out (i := 2) rfl
  obtain ⟨b, o, cs, hA, _, hK, hcell⟩ := HI3.out.2.1.elems 0 _ rfl
  obtain ⟨vs, vr, va, rfl, e1, e2, e3⟩ := kCon_cells hK
  have f0 := hcell 0 _ rfl
  simp only [Nat.zero_mul, Nat.add_zero] at f0
  subst hA
  clear hcell hK e1 e2 e3
  go_wp2_with fail
  generalize w3.alloc (.cells #[.slice none 0 0, .slice none 0 0, .slice none 0 0] 26) = W3 at *
  have HR := Lib.hid (right_any _ _ _ _ _ _ HI3.out.1 HI3.out.2.1 HI3.out.2.2)
  rw [right_t1] at HR
  go_wp2_with (first
    | (go_at_call 14; refine HR.out.mono ?_; rintro e w5 ⟨rfl, hb⟩; (have HX5 := Lib.hid (block_kept hb HX3.out)); (have HI5 := Lib.hid (HI3.out.below hb)); (have HB5 := Lib.hid (below_next HB4.out hb)); (have x0 := cell_at HX5.out (i := 0) rfl); (have x1 := cell_at HX5.out (i := 1) rfl); (have x2 := cell_at HX5.out (i := 2) rfl); (have HPR := Lib.hid (print_any _ _ _ _ _ w5 (HE.out.below HB5.out HE.out.size) HI5.out.1 HI5.out.2.1 HI5.out.2.2 (by rw [print_t1]; decide))); clear hb HX3 HI3 HB4 HR)
    | (go_at_call 15; rw [print_t1] at HPR; refine HPR.out.mono ?_; rintro e w6 ⟨rfl, hb⟩; (have HB6 := Lib.hid (below_next HB5.out hb)); clear hb HPR))
  go_ret
  exact ⟨rfl, HB6.out⟩
end Go.Proofs.YtoahaigfjfeopaaGreatDoor

/- What the rows' lists give a walk; a start that meets them. -/
namespace Go.Proofs.YtoahaigfjfeopaaGreatDoor
open Go.ChangeShapes Go.WideShapes Go.ChangeAt Go.RowKit

theorem own_knob : ownKnob Tryz.prog.godebug = none := by kernel_rfl
theorem laid_out : laidOutB Tryz.prog = true := by kernel_rfl
def strData {H : Type} (ls : List (List UInt8)) : DataW H := .agg (ls.map fun l => .lit (.string l))
/-- An array of strings that reads as listed holds those strings. -/
theorem cells_of_strs {H : Type} {enc : TypeId × Value → H} {P : Program} {w : World} {base : Nat} {sp : Nat → Bool} {held : Bool} {fuel : Nat} {t e : TypeId} {n : Nat} {cs : List Value} {ls : List (List UInt8)} {p : List MemPlace}
    (ht : P.underlying t = some (.array n e)) (he : P.underlying e = some .string) (hce : P.cellsOf e = 1) (hct : P.cellsOf t = n)
    (h : DataW.trod enc P w base sp held fuel t cs = some (strData ls, p)) : cs = ls.map fun l => Value.string ⟨l.toArray⟩ := by
  cases fuel with
  | zero => simp [DataW.trod] at h
  | succ fuel =>
    simp only [DataW.trod, ht, hce, hct, Nat.mul_one] at h
    split at h
    · rename_i hl
      obtain ⟨xs, hm, hx⟩ := Option.map_eq_some_iff.1 h
      have hxs : xs.map (·.1) = ls.map fun l => (DataW.lit (.string l) : DataW H) := by
        have := congrArg Prod.fst hx
        simpa [strData] using this
      have hxl : xs.length = n := by simpa using Lib.mapM_length hm
      have hzl : ls.length = n := by
        have := congrArg List.length hxs
        simp at this
        omega
      apply List.ext_getElem?
      intro i
      by_cases hi : i < n
      · obtain ⟨b, hb, hf⟩ := Lib.mapM_at hm i i (by simp [hi])
        obtain ⟨s, hc, rfl, _⟩ := DataW.trod_string he hf
        have h1 : cs[i]? = some (.string s) := by
          have := congrArg (·[0]?) hc
          simpa [List.getElem?_take, List.getElem?_drop] using this
        have h2 : (xs.map (·.1))[i]? = some (DataW.lit (.string s.data.toList) : DataW H) := by simp [hb]
        rw [hxs] at h2
        simp only [List.getElem?_map, Option.map_eq_some_iff, DataW.lit.injEq, Lit.string.injEq] at h2
        obtain ⟨l', hl', he'⟩ := h2
        simp [h1, hl', he']
      · rw [List.getElem?_eq_none (by omega), List.getElem?_eq_none (by simp; omega)]
    · cases h
theorem strs_of_head {P : Program} {W : World} {name : String} {ls : List (List UInt8)} {rest : List (String × DataW Unit)} {g : Nat} {t e : TypeId} {n : Nat}
    (hg : P.globalNamed name = some g) (hty : (P.globals[g]?).map (·.type) = some t) (ht : P.underlying t = some (.array n e)) (he : P.underlying e = some .string) (hce : P.cellsOf e = 1) (hct : P.cellsOf t = n)
    (h : laidMet P ((name, strData ls) :: rest) W) : ∃ t fr, W.heap[g]? = some (.cells (ls.map fun l => Value.string ⟨l.toArray⟩).toArray t fr) := by
  obtain ⟨ps, ⟨g', t', cs, fuel, p, q, hg', ht', hvar, hd, _, _⟩, _⟩ := h
  obtain rfl := Option.some.inj (hg.symm.trans hg')
  obtain rfl := Option.some.inj (hty.symm.trans ht')
  have hc := cells_of_strs ht he hce hct hd
  simp only [World.var?, hg, Option.bind_some] at hvar
  split at hvar
  · rename_i cs' t fr hh
    injection hvar with hvar
    subst hvar
    exact ⟨t, fr, by rw [hh, ← hc]⟩
  · cases hvar
theorem iface_of_head {P : Program} {W : World} {name nm : String} {d : DataW Unit} {rest : List (String × DataW Unit)} {g : Nat} {t : TypeId} {ms : Array (String × TypeId)}
    (hg : P.globalNamed name = some g) (hty : (P.globals[g]?).map (·.type) = some t) (ht : P.underlying t = some (.interface ms))
    (h : laidMet P ((name, .iface nm d) :: rest) W) : ∃ tp p, W.var? P name = some #[.iface tp p] := by
  obtain ⟨ps, ⟨g', t', cs, fuel, p, q, hg', ht', hvar, hd, _, _⟩, _⟩ := h
  obtain rfl := Option.some.inj (hg.symm.trans hg')
  obtain rfl := Option.some.inj (hty.symm.trans ht')
  obtain ⟨f1, u, v, hcs, _, _⟩ := iface_of_trod ht hd
  exact ⟨u, v, by rw [hvar]; congr 1; exact Array.ext' hcs⟩
theorem size_of_head {P : Program} {W : World} {name : String} {d : DataW Unit} {rest : List (String × DataW Unit)} {g : Nat} (hg : P.globalNamed name = some g) (h : laidMet P ((name, d) :: rest) W) : g < W.heap.size := by
  obtain ⟨ps, ⟨g', t', cs, fuel, p, q, hg', ht', hvar, hd, _, _⟩, _⟩ := h
  obtain rfl := Option.some.inj (hg.symm.trans hg')
  simp only [World.var?, hg, Option.bind_some] at hvar
  split at hvar
  · rename_i hh; exact (Array.getElem?_eq_some_iff.1 hh).1
  · cases hvar
def rowLaid : List (String × DataW Unit) := [("math/bits.deBruijn32tab", Rows.laid_math_bits_deBruijn32tab), ("math/bits.deBruijn64tab", Rows.laid_math_bits_deBruijn64tab), ("internal/strconv.uint64pow10", Rows.laid_internal_strconv_uint64pow10), ("strconv.ErrRange", Rows.laid_strconv_ErrRange), ("strconv.ErrSyntax", Rows.laid_strconv_ErrSyntax), ("arborist/inst.words", Rows.laid_arborist_inst_words), ("arborist/inst.hows", Rows.laid_arborist_inst_hows)]
theorem env_of_laid {W : World} (h : laidMetH Tryz.prog rowLaid W) : Env W := by
  have h1 : laidMet Tryz.prog rowLaid W := h
  have h2 := h1.tail
  have h3 := h2.tail
  have h4 := h3.tail
  have h5 := h4.tail
  have h6 := h5.tail
  have h7 := h6.tail
  exact ⟨strs_of_head (g := 0) (t := 100) (ls := wordsT) (by kernel_rfl) (by kernel_rfl) Tryz.underlying100 Tryz.underlying9 (by kernel_rfl) (by kernel_rfl) h6,
    strs_of_head (g := 1) (t := 102) (ls := howsT) (by kernel_rfl) (by kernel_rfl) Tryz.underlying102 Tryz.underlying9 (by kernel_rfl) (by kernel_rfl) h7,
    Lib.tabIs_of_head (g := 2) (t := 149) (by kernel_rfl) (by kernel_rfl) Tryz.underlying149 Tryz.underlying142 (by kernel_rfl) (by kernel_rfl) h3,
    iface_of_head (g := 4) (t := 63) (by kernel_rfl) (by kernel_rfl) Tryz.underlying63 h5,
    iface_of_head (g := 5) (t := 63) (by kernel_rfl) (by kernel_rfl) Tryz.underlying63 h4,
    size_of_head (g := 7) (by kernel_rfl) h2⟩
theorem laid_met (os : Os) (args : Array Value) : laidMet Tryz.prog rowLaid ((World.doorLaid Tryz.prog 200 os).forCall (fun _ _ => 0) ⟨#[], args, []⟩).memory :=
  laidMet_of_run' 8 (by kernel_rfl) (by kernel_rfl)
end Go.Proofs.YtoahaigfjfeopaaGreatDoor

/- From a contract 'true, and what was there stands' to the form's claims; a slice of bytes opened. -/
namespace Go.Proofs.YtoahaigfjfeopaaGreatDoor
open Go.ChangeShapes Go.WideShapes Go.ChangeAt Go.RowKit

/-- One argument, the answer true: what 'post' asks. -/
theorem post_true1 {H : Type} {enc : TypeId × Value → H} {f : Func} {s : ChangeSpec} {W W' : World} {t : TypeId} {v0 : Value} {d0 : DataW H} {p0 : List MemPlace}
    (hp : f.params = #[t]) (hr : f.resultTypes = #[4]) (hsv : s.vars = []) (hfn : s.fn H [d0] = { results := [.lit (.bool true)], args := [d0] })
    (hrd : Tryz.prog.readableRec t = true) (ht : t < Tryz.prog.types.size)
    (h0 : DataW.Trod enc Tryz.prog W 0 (fun _ => true) true t v0 d0 p0)
    (hW : DataW.Whole enc Tryz.prog f.params.toList s.vars false W #[v0].toList [d0] [] p0) (hb : Below W.heap.size W W') :
    s.post enc Tryz.prog f false true false false W #[v0] (.bool true) W' := by
  have hlt : ∀ x ∈ p0, x.block < W.heap.size := fun x hx => by simpa using hW.lt x hx
  refine ⟨[d0], [], p0, [], p0 ++ [], [], by simpa using hW, ?_, ?_, ?_, hb.frame _, fun h => by cases h⟩
  · rw [hr, show ([d0] ++ [] : List (DataW H)) = [d0] from rfl, hfn]
    exact trodAll_cons_mk (shut_bool Tryz.underlying4 _) trodAll_mk0
  · rw [hp, show ([d0] ++ [] : List (DataW H)) = [d0] from rfl, hfn]
    exact trodAll_cons_mk (Below.trod laid_out hrd ht h0 hb hlt) trodAll_mk0
  · rw [hsv, show ([d0] ++ [] : List (DataW H)) = [d0] from rfl, hfn]
    exact rfl
set_option maxRecDepth 100000 in
/-- A slice of bytes, as it is handed in. -/
theorem open_bytes {H : Type} {enc : TypeId × Value → H} {W : World} {base : Nat} {sp : Nat → Bool} {v : Value} {d : DataW H} {ps : List MemPlace}
    (hv : Value.okWide Tryz.prog W .any base 39 v) (h : DataW.Trod enc Tryz.prog W 0 sp true 39 v d ps) (hsz : (DataW.weightsEach Tryz.prog [39] [d]).all (· ≤ reachBytes) = true) :
    ∃ xs, Sl (Kd.int .u8) W (fun _ => True) v xs ∧ ∀ k, k < xs.length → 0 ≤ nth 0 xs k ∧ nth 0 xs k ≤ 255 := by
  obtain ⟨a0, len, cap, rfl⟩ := okWide_slice Tryz.underlying39 hv
  obtain ⟨fuel, hf⟩ := h
  rcases open_ints Tryz.underlying39 Tryz.underlying5 (by kernel_rfl) hf with ⟨hcs, _⟩ | ⟨a, len', cap', zs, hcs, _, hl, hm, hz, hx, hcell, hwz⟩
  · simp [Value.cells] at hcs
    obtain ⟨rfl, rfl, rfl⟩ := hcs
    exact ⟨[], ⟨none, 0, rfl, Nat.le_refl _, by simp, fun j x hx => by simp at hx⟩, fun k hk => by simp at hk⟩
  · simp [Value.cells] at hcs
    obtain ⟨rfl, rfl, rfl⟩ := hcs
    simp only [Prod.mk.injEq] at hx
    obtain ⟨rfl, _⟩ := hx
    have hzl : len ≤ zs.length := by rw [hz]; split <;> omega
    have htl : (zs.take len).length = len := by rw [List.length_take]; omega
    have hlen : len ≤ 140737488355328 := by
      simp [DataW.weightsEach, DataW.weights, Tryz.underlying39, show Tryz.prog.bytesOf 5 = 1 from by kernel_rfl, lits, reachBytes] at hsz
      have := of_decide_eq_true hsz.1
      omega
    refine ⟨zs.take len, ⟨some a, cap, by rw [htl], by rw [htl]; exact hl, by rw [htl]; exact hlen, fun j x hx => ?_⟩, fun k hk => ?_⟩
    · have hj : j < len := by have := (List.getElem?_eq_some_iff.1 hx).1; omega
      have hc := hcell j (by omega)
      obtain ⟨b, o, spot⟩ := a
      have hspot : spot = none := by simpa [Addr.add] using World.cell?_spot (hcell 0 (by omega))
      subst hspot
      rw [List.getElem?_take_of_lt hj] at hx
      have hx' : zs.getD j 0 = x := by rw [List.getD_eq_getElem?_getD, hx]; rfl
      rw [hx'] at hc
      refine ⟨b, o, [.int .u8 x], rfl, trivial, rfl, fun i u hu => ?_⟩
      have hi : i = 0 := by have := (List.getElem?_eq_some_iff.1 hu).1; simp at this; exact this
      subst hi
      simp at hu
      subst hu
      have e : (⟨b, o, none⟩ : Addr).add j = ⟨b, o + (j * (Kd.int .u8).sz + 0), none⟩ := by
        simp only [Kd.int, Kd.scalar, Nat.mul_one, Nat.add_zero]
        unfold Addr.add; split <;> simp_all
      rw [e] at hc
      exact hc
    · rw [htl] at hk
      have hk2 : k < zs.length := by omega
      have hm : zs[k] ∈ zs := List.getElem_mem hk2
      have := hwz _ hm
      have he : nth 0 (zs.take len) k = zs[k] := by simp [nth, List.getD_eq_getElem?_getD, List.getElem?_take_of_lt hk, List.getElem?_eq_getElem hk2]
      rw [he]
      simpa [Lit.wf, IntKind.min, IntKind.max, IntKind.signed, IntKind.bits] using this
end Go.Proofs.YtoahaigfjfeopaaGreatDoor
