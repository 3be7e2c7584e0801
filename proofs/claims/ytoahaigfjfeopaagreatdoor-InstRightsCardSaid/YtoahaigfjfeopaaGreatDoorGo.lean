/- Texts joined: Px Wau Rd Rk. -/
import Derived.Test.YtoahaigfjfeopaaGreatDoorGn
import Derived.Test.YtoahaigfjfeopaaGreatDoorGk
import Derived.Test.YtoahaigfjfeopaaGreatDoorGl
import Derived.Test.YtoahaigfjfeopaaGreatDoorGm
import Derived.Test.YtoahaigfjfeopaaGreatDoorGa
import Derived.Test.YtoahaigfjfeopaaGreatDoorGg
import Derived.Lib.SmallJoins
import Derived.Deep.Slices
/- The text of a cut right instance is not long. -/
namespace Go.Proofs.YtoahaigfjfeopaaGreatDoor

theorem flat_len {α β : Type} (f : α → List β) (n : Nat) : ∀ (l : List α), (∀ a ∈ l, (f a).length ≤ n) → (l.flatMap f).length ≤ l.length * n
  | [], _ => by simp
  | a :: l, h => by
    have h1 := h a (List.mem_cons_self ..)
    have h2 := flat_len f n l fun b hb => h b (List.mem_cons_of_mem _ hb)
    rw [List.flatMap_cons, List.length_append, List.length_cons, Nat.succ_mul]
    omega
theorem rowsK_len : ∀ (l : List (List Int)) (i : Nat), (∀ t ∈ l, t.length ≤ 6) → (rowsK i l).length ≤ l.length * 7
  | [], _, _ => by simp [rowsK]
  | t :: l, i, h => by
    have h1 := h t (List.mem_cons_self ..)
    have h2 := rowsK_len l (i + 1) fun b hb => h b (List.mem_cons_of_mem _ hb)
    have h3 : (if 0 < i then [sT 44] else []).length ≤ 1 := by split <;> simp
    rw [rowsK]
    simp only [List.length_append, List.length_map, List.length_cons] at *
    omega
theorem linK_len : ∀ (a v : List Int) (i : Nat), (linK i a v).length ≤ v.length * 3
  | [], _, _ => by simp [linK]
  | _ :: _, [], _ => by simp [linK]
  | a :: aa, v :: vs, i => by
    have h2 := linK_len aa vs (i + 1)
    have h3 : (if 0 < i then [sT 44] else []).length ≤ 1 := by split <;> simp
    rw [linK]
    simp only [List.length_append, List.length_cons, List.length_nil] at *
    omega
theorem costsK_len : ∀ (l : List (List Int)) (k : List Int), (∀ t ∈ l, t.length ≤ 6) → (costsK l k).length ≤ l.length * 8
  | [], _, _ => by simp [costsK]
  | _ :: _, [], _ => by simp [costsK]
  | t :: l, k :: ks, h => by
    have h1 := h t (List.mem_cons_self ..)
    have h2 := costsK_len l ks fun b hb => h b (List.mem_cons_of_mem _ hb)
    rw [costsK]
    simp only [List.length_append, List.length_map, List.length_cons, List.length_nil] at *
    omega
theorem rows_six {x : Ins} {scope : List Int} {rows : List (List Int)} {o : Option (List Int)} (hd : DomsOk x.doms) (hs : scopeB x.doms.length scope = true) (h : rowsB x.doms scope o rows = true) : ∀ t ∈ rows, t.length ≤ 6 := by
  intro t ht
  obtain ⟨i, hi, rfl⟩ := mem_nth [] ht
  have h1 := (rowsB_fits (doms_fit hd) (scopeB_range hs) rows o h i hi).1
  have h2 := (scope_ok hs).1.1
  omega
theorem print_cut (z : Ins) (h : rightB (cutI z) = true) : (printP (cutI z)).length ≤ 100000 := by
  obtain ⟨hd, h1, h2, h3, h4⟩ := right_parts h
  have hp := print_len h
  have l1 : (((cutI z).doms.map St.dom).flatMap stK).length ≤ (cutI z).doms.length * 18 := by
    rw [List.flatMap_map]
    refine flat_len _ 18 _ fun d hdm => ?_
    have := hd.2 d hdm
    simp only [domainB, Bool.and_eq_true, decide_eq_true_eq] at this
    simp only [stK, domK, List.length_append, List.length_cons, List.length_nil, List.length_map]
    omega
  have l2 : (((cutI z).hard.map St.hard).flatMap stK).length ≤ (cutI z).hard.length * 220 := by
    rw [List.flatMap_map]
    refine flat_len _ 220 _ fun c hc => ?_
    have hb := h3 c hc
    obtain ⟨c0, _, rfl⟩ := List.mem_map.1 hc
    have hr : (cutC c0).rows.length ≤ 30 := by simp only [cutC, rowsC, List.length_map, List.length_take]; omega
    generalize cutC c0 = c at *
    simp only [hardB, Bool.and_eq_true] at hb
    obtain ⟨⟨⟨⟨hs, _⟩, _⟩, _⟩, hrest⟩ := hb
    have hs6 := (scope_ok hs).1.1
    by_cases hk : c.kind = 6
    · have := linK_len c.args c.scope 0
      simp only [stK, hardK, if_pos hk, List.length_append, List.length_cons, List.length_nil] at *
      omega
    · rw [if_neg hk] at hrest
      simp only [Bool.and_eq_true] at hrest
      have hr2 := rowsK_len c.rows 0 (rows_six hd hs hrest.2)
      simp only [stK, hardK, if_neg hk, List.length_append, List.length_cons, List.length_nil, List.length_map]
      split
      · simp; omega
      · simp only [List.length_append, List.length_cons, List.length_nil]; omega
  have l3 : (((cutI z).soft.map St.soft).flatMap stK).length ≤ (cutI z).soft.length * 260 := by
    rw [List.flatMap_map]
    refine flat_len _ 260 _ fun c hc => ?_
    have hb := h4 c hc
    obtain ⟨c0, _, rfl⟩ := List.mem_map.1 hc
    have hr : (cutS c0).rows.length ≤ 30 := by simp only [cutS, rowsC, List.length_map, List.length_take]; omega
    generalize cutS c0 = c at *
    simp only [softB, Bool.and_eq_true] at hb
    obtain ⟨⟨⟨⟨hs, _⟩, _⟩, _⟩, hrest⟩ := hb
    have hs6 := (scope_ok hs).1.1
    have hr2 := costsK_len c.rows c.costs (rows_six hd hs hrest)
    simp only [stK, softK, List.length_append, List.length_cons, List.length_nil, List.length_map]
    omega
  have n1 : (cutI z).doms.length ≤ 40 := hd.1
  have n2 : (cutI z).hard.length ≤ 10 := by simp only [cutI, List.length_map, List.length_take]; omega
  have n3 : (cutI z).soft.length ≤ 10 := by simp only [cutI, List.length_map, List.length_take]; omega
  have hs : ((stsOf (cutI z)).flatMap stK).length = (((cutI z).doms.map St.dom).flatMap stK).length + ((((cutI z).hard.map St.hard).flatMap stK).length + (((cutI z).soft.map St.soft).flatMap stK).length) := by
    simp only [stsOf, List.flatMap_append, List.length_append]
  omega
end Go.Proofs.YtoahaigfjfeopaaGreatDoor

/- arboristlaw06.InstBack. -/
namespace Go.Proofs.YtoahaigfjfeopaaGreatDoor
open Go.RowKit
attribute [local irreducible] wpStill wpLex wpLexO Calls

/-- The argument's box, cut: what it holds. -/
theorem cut_stored {w w2 W : World} {W1 : World} {A1 A2 A3 : Option Addr} {n1 n2 n3 k1 k2 k3 : Nat} {y : Ins} (hs : w.heap.size + 1 ≤ W1.heap.size)
    (hW : W = ((w2.setCell ⟨w.heap.size, 0, none⟩ (.slice A1 n1 k1)).setCell ⟨w.heap.size, 1, none⟩ (.slice A2 n2 k2)).setCell ⟨w.heap.size, 2, none⟩ (.slice A3 n3 k3))
    (hx : ∃ c0 c1 c2, w2.heap[w.heap.size]? = some (.cells #[c0, c1, c2] 26)) (hb : Below w.heap.size w w2) (hi : InsAt w2 (fun k => W1.heap.size ≤ k ∧ k < w2.heap.size) (.slice A1 n1 k1) (.slice A2 n2 k2) (.slice A3 n3 k3) y) :
    W.heap[w.heap.size]? = some (.cells #[.slice A1 n1 k1, .slice A2 n2 k2, .slice A3 n3 k3] 26) ∧ Below w.heap.size w W ∧ InsAt W Any (.slice A1 n1 k1) (.slice A2 n2 k2) (.slice A3 n3 k3) y := by
  subst hW
  obtain ⟨c0, c1, c2, hx⟩ := hx
  have hch : Chg (fun k => k = w.heap.size) w2 (((w2.setCell ⟨w.heap.size, 0, none⟩ (.slice A1 n1 k1)).setCell ⟨w.heap.size, 1, none⟩ (.slice A2 n2 k2)).setCell ⟨w.heap.size, 2, none⟩ (.slice A3 n3 k3)) :=
    ((chg_setCell w2 _ 0 _).trans (chg_setCell _ _ 1 _) (fun _ _ h => h)).trans (chg_setCell _ _ 2 _) (fun _ _ h => h)
  refine ⟨by simp [World.setCell, Array.getElem?_modify, hx], hb.trans (hch.below (B := w.heap.size) (fun k hk e => by omega) hb.size), (hi.chg hch (fun k hk e => by omega)).mono (fun _ _ => trivial)⟩
set_option maxRecDepth 100000 in
set_option maxHeartbeats 8000000 in
theorem back_law (vD vH vS : Value) (x : Ins) (okv : Nat → Prop) (w : World) (hE : Env w) (hx : InsAt w okv vD vH vS x) :
    Calls Tryz.prog 5 #[.agg #[vD, vH, vS]] w fun e w' => e = .returned (.bool true) ∧ Below w.heap.size w w' := by
  have HS := Lib.hid (fun W (hb : Below w.heap.size w W) => shown_any W (hE.below hb hE.size))
  have HE := Lib.hid hE
  have HX := Lib.hid hx
  have HD := hx.1
  obtain ⟨⟨AD, cD, rfl, _⟩, ⟨AH, cH, rfl, _⟩, ⟨AS, cS, rfl, _⟩⟩ := hx
  clear hE
  have HB0 := Lib.hid (below_alloc1 w (.cells #[.slice AD x.doms.length cD, .slice AH x.hard.length cH, .slice AS x.soft.length cS] 26))
  have HC0 := Lib.hid (heap_alloc_new w (.cells #[.slice AD x.doms.length cD, .slice AH x.hard.length cH, .slice AS x.soft.length cS] 26))
  have HZ0 : Hid (w.heap.size + 1 ≤ (w.alloc (.cells #[.slice AD x.doms.length cD, .slice AH x.hard.length cH, .slice AS x.soft.length cS] 26)).heap.size) := Lib.hid (by simp)
  go_enter Tryz.func5, Tryz.ntmps5
  go_wp2_with (go_at_call 11; refine (HS.out _ HB0.out).mono ?_; rintro e w1 ⟨rfl, hb⟩; (have HB1 := Lib.hid (below_next HB0.out hb)); (have HC1 := Lib.hid (block_kept hb HC0.out)); (have HZ1 := Lib.hid (Nat.le_trans HZ0.out hb.size)); (have x0 := cell_at HC1.out (i := 0) rfl); (have x1 := cell_at HC1.out (i := 1) rfl); (have x2 := cell_at HC1.out (i := 2) rfl); clear hb HS HB0 HC0 HZ0)
  refine (cut_any _ _ _ x okv w1 (HX.out.below HB1.out)).mono ?_
  rintro e w2 ⟨⟨dv, hv, sv, rfl, hi⟩, hb⟩
  have HI := Lib.hid hi
  obtain ⟨⟨A1, k1, rfl, _⟩, ⟨A2, k2, rfl, _⟩, ⟨A3, k3, rfl, _⟩⟩ := hi
  have hc2 := block_kept hb HC1.out
  have HB2 := Lib.hid (below_next HB1.out hb)
  have y0 := cell_at hc2 (i := 0) rfl
  have y1 := cell_at hc2 (i := 1) rfl
  have y2 := cell_at hc2 (i := 2) rfl
  have f0 := Lib.frozen_of_heap hc2 0
  have f1 := Lib.frozen_of_heap hc2 1
  have f2 := Lib.frozen_of_heap hc2 2
  have HC2 := Lib.hid hc2
  clear hb hc2 HB1 HC1 x0 x1 x2
  go_upto_region 3 with fail
  obtain ⟨W, hW⟩ : ∃ W, W = ((w2.setCell ⟨w.heap.size, 0, none⟩ (.slice A1 (cutI x).doms.length k1)).setCell ⟨w.heap.size, 1, none⟩ (.slice A2 (cutI x).hard.length k2)).setCell ⟨w.heap.size, 2, none⟩ (.slice A3 (cutI x).soft.length k3) := ⟨_, rfl⟩
  obtain ⟨hcW, hbW, hiW⟩ := cut_stored HZ1.out hW ⟨_, _, _, HC2.out⟩ HB2.out HI.out
  rw [← hW]
  have HCW := Lib.hid hcW
  have HBW := Lib.hid hbW
  have HIW := Lib.hid hiW
  have x0 := cell_at hcW (i := 0) rfl
  have x1 := cell_at hcW (i := 1) rfl
  have x2 := cell_at hcW (i := 2) rfl
  clear hW hcW hbW hiW HI HC2 HB2 HZ1 y0 y1 y2 f0 f1 f2
  have hY := print_cut x
  have hpr := parse_print (x := cutI x)
  generalize cutI x = y at *
  clear HD HX
  cases hr : rightB y
  · have hp : printP y = [] := by rw [printP, if_neg (by rw [hr]; decide)]
    have hP := print_any _ _ _ y Any W (HE.out.below HBW.out HE.out.size) HIW.out.1 HIW.out.2.1 HIW.out.2.2 (by rw [hp]; decide)
    rw [hp] at hP
    have HP := Lib.hid hP
    have HRT := Lib.hid hr
    clear hP hr hp hY hpr
    go_wp2_with (first
      | (go_at_call 15; refine HP.out.mono ?_; rintro e w3 ⟨rfl, hb⟩; (have HC3 := Lib.hid (block_kept hb HCW.out)); (have HI3 := Lib.hid (HIW.out.below hb)); (have HB3 := Lib.hid (below_next HBW.out hb)); (have hrr := right_any _ _ _ _ _ w3 HI3.out.1 HI3.out.2.1 HI3.out.2.2); rw [HRT.out] at hrr; (have HR := Lib.hid hrr); (have x0 := cell_at HC3.out (i := 0) rfl); (have x1 := cell_at HC3.out (i := 1) rfl); (have x2 := cell_at HC3.out (i := 2) rfl); clear hb hrr HP HCW HIW HBW)
      | (go_at_call 14; refine HR.out.mono ?_; rintro e w4 ⟨rfl, hb⟩; (have HB4 := Lib.hid (below_next HB3.out hb)); clear hb HR HB3))
    go_ret
    exact ⟨rfl, HB4.out⟩
  · have hlen := hY hr
    have HBK := Lib.hid (hpr hr hlen)
    have HRT := Lib.hid hr
    have HP := Lib.hid (print_any _ _ _ y Any W (HE.out.below HBW.out HE.out.size) HIW.out.1 HIW.out.2.1 HIW.out.2.2 (by omega))
    clear hr hY hpr
    go_wp2_with (first
      | (go_at_call 15; refine HP.out.mono ?_; rintro e w3 ⟨rfl, hb⟩; (have HC3 := Lib.hid (block_kept hb HCW.out)); (have HI3 := Lib.hid (HIW.out.below hb)); (have HB3 := Lib.hid (below_next HBW.out hb)); (have hrr := right_any _ _ _ _ _ w3 HI3.out.1 HI3.out.2.1 HI3.out.2.2); rw [HRT.out] at hrr; (have HR := Lib.hid hrr); (have x0 := cell_at HC3.out (i := 0) rfl); (have x1 := cell_at HC3.out (i := 1) rfl); (have x2 := cell_at HC3.out (i := 2) rfl); clear hb hrr HP HCW HIW HBW)
      | (go_at_call 14; refine HR.out.mono ?_; rintro e w4 ⟨rfl, hb⟩; (have HC4 := Lib.hid (block_kept hb HC3.out)); (have HI4 := Lib.hid (HI3.out.below hb)); (have HB4 := Lib.hid (below_next HB3.out hb)); (have HQ := Lib.hid (reads_ok (printP y) y w4 (HE.out.below (below_next HB3.out hb) HE.out.size) (by omega) HBK.out)); clear hb HR HC3 HI3 HB3 x0 x1 x2)
      | (go_at_call 18; refine HQ.out.mono ?_; rintro e w5 ⟨⟨DA2, Dc2, HA2, Hc2, SA2, Sc2, rfl, hj, _⟩, hb⟩; (have hbe := below_alloc1 w5 (.cells #[.slice DA2 y.doms.length Dc2, .slice HA2 y.hard.length Hc2, .slice SA2 y.soft.length Sc2] 26)); (have HC6 := Lib.hid (block_kept hbe (block_kept hb HC4.out))); (have HY6 := Lib.hid (heap_alloc_new w5 (.cells #[.slice DA2 y.doms.length Dc2, .slice HA2 y.hard.length Hc2, .slice SA2 y.soft.length Sc2] 26))); (have HI6 := Lib.hid ((HI4.out.below hb).below hbe)); (have HJ6 := Lib.hid (hj.below hbe)); (have HB6 := Lib.hid (below_next (below_next HB4.out hb) hbe)); (have x0 := cell_at HC6.out (i := 0) rfl); (have x1 := cell_at HC6.out (i := 1) rfl); (have x2 := cell_at HC6.out (i := 2) rfl); (have y0 := cell_at HY6.out (i := 0) rfl); (have y1 := cell_at HY6.out (i := 1) rfl); (have y2 := cell_at HY6.out (i := 2) rfl); clear hj hb hbe HQ HC4 HI4 HB4)
      | (go_at_call 17; refine (same_any _ _ _ _ _ _ _ _ Any _ HI6.out HJ6.out).mono ?_; rintro e w7 ⟨rfl, hb⟩; (have HY7 := Lib.hid (block_kept hb HY6.out)); (have HJ7 := Lib.hid (HJ6.out.below hb)); (have HB7 := Lib.hid (below_next HB6.out hb)); (have hpp := print_any _ _ _ y Any w7 (HE.out.below HB7.out HE.out.size) HJ7.out.1 HJ7.out.2.1 HJ7.out.2.2 (by omega)); (have HPP := Lib.hid hpp); (have y0 := cell_at HY7.out (i := 0) rfl); (have y1 := cell_at HY7.out (i := 1) rfl); (have y2 := cell_at HY7.out (i := 2) rfl); clear hb hpp HC6 HY6 HI6 HJ6 HB6)
      | (go_at_call 15; refine HPP.out.mono ?_; rintro e w8 ⟨rfl, hb⟩; (have HB8 := Lib.hid (below_next HB7.out hb)); clear hb HPP HB7))
    go_ret
    exact ⟨ret_bool (by simp), HB8.out⟩
end Go.Proofs.YtoahaigfjfeopaaGreatDoor

/- An instance opened, as it is handed in. -/
namespace Go.Proofs.YtoahaigfjfeopaaGreatDoor
open Go.ChangeShapes Go.WideShapes Go.ChangeAt Go.RowKit

/-- Whatever reads as data of a type is data of a kind. -/
def Reads {H : Type} (enc : TypeId × Value → H) (w : World) {α : Type} (d : Kd α) (t : TypeId) : Prop :=
  Tryz.prog.cellsOf t = d.sz ∧ ∀ (fuel : Nat) (cs : List Value) (x : DataW H × List MemPlace), DataW.trod enc Tryz.prog w 0 (fun _ => true) true fuel t cs = some x → (x.1.weights Tryz.prog t).all (· ≤ reachBytes) = true → ∃ a, d.K w (fun _ => True) a cs
theorem weights_mem {H : Type} {P : Program} {e : TypeId} {p : Nat → Bool} : ∀ {l : List (DataW H)}, (DataW.weightsAll P e l).all p = true → ∀ d ∈ l, (d.weights P e).all p = true
  | [], _, d, hd => by simp at hd
  | a :: l, h, d, hd => by
    simp only [DataW.weightsAll, List.all_append, Bool.and_eq_true] at h
    rcases List.mem_cons.1 hd with rfl | hd
    · exact h.1
    · exact weights_mem h.2 d hd
theorem list_choose {α : Type} {p : Nat → α → Prop} : ∀ (n : Nat), (∀ j, j < n → ∃ x, p j x) → ∃ xs : List α, xs.length = n ∧ ∀ j x, xs[j]? = some x → p j x
  | 0, _ => ⟨[], rfl, fun j x h => by simp at h⟩
  | n + 1, h => by
    obtain ⟨xs, h1, h2⟩ := list_choose n fun j hj => h j (Nat.lt_succ_of_lt hj)
    obtain ⟨x, hx⟩ := h n (Nat.lt_succ_self n)
    refine ⟨xs ++ [x], by simp [h1], fun j y hy => ?_⟩
    rcases Nat.lt_or_ge j xs.length with hlt | hge
    · rw [List.getElem?_append_left hlt] at hy
      exact h2 j y hy
    · rw [List.getElem?_append_right hge] at hy
      have hj : j - xs.length = 0 := by have := (List.getElem?_eq_some_iff.1 hy).1; simp at this; omega
      rw [hj] at hy
      simp at hy
      subst hy
      rw [show j = n by omega]
      exact hx
theorem four {α : Type} {l : List α} (h : l.length = 4) : ∃ a b c d, l = [a, b, c, d] := by
  match l, h with
  | [a, b, c, d], _ => exact ⟨a, b, c, d, rfl⟩
section
variable {H : Type} {base : Nat} {enc : TypeId × Value → H} {w : World}
theorem reads_int {t : TypeId} {k : IntKind} (ht : Tryz.prog.underlying t = some (.int k)) (hc : Tryz.prog.cellsOf t = 1) : Reads enc w (Kd.int k) t :=
  ⟨hc, fun fuel cs x h _ => by
    obtain ⟨n, rfl, _⟩ := DataW.trod_int ht h
    exact ⟨n, rfl⟩⟩
theorem reads_slice {α : Type} {d : Kd α} {hs : 0 < d.sz} {t e : TypeId} (ht : Tryz.prog.underlying t = some (.slice e)) (hc : Tryz.prog.cellsOf t = 1) (hb : 1 ≤ Tryz.prog.bytesOf e) (hd : Reads enc w d e) : Reads enc w (Kd.slice d hs) t :=
  ⟨hc, fun fuel cs x h hw => by
    rcases Go.Deep.open_slice ht h with ⟨rfl, _⟩ | ⟨a, len, cap, m, n, D, Pl, rfl, _, hl, hm, hmm, rfl, hx⟩
    · exact ⟨[], _, rfl, none, 0, rfl, Nat.le_refl _, by simp, fun j x hx => by simp at hx⟩
    · simp only [if_true] at hmm
      subst hmm
      simp only [DataW.weights, ht, List.all_cons, List.all_append, Bool.and_eq_true, decide_eq_true_eq, List.length_map, List.length_range] at hw
      obtain ⟨hw1, hw2, _⟩ := hw
      have hlen : len ≤ 140737488355328 := by
        have h1 : len + (m - len) ≤ (len + (m - len)) * Tryz.prog.bytesOf e := Nat.le_mul_of_pos_right _ hb
        have h2 : reachBytes ≤ 140737488355328 := by decide
        omega
      have hsp : 0 < len → a.spot = none := by
        intro hj
        obtain ⟨cs', h1, h2⟩ := hx 0 (by omega)
        obtain ⟨y, hy⟩ := hd.2 n cs' _ h2 (weights_mem hw2 _ (List.mem_map.2 ⟨0, List.mem_range.2 hj, rfl⟩))
        have hcl := d.len hy
        obtain ⟨_, _, hcell⟩ := World.cells?_some h1
        rw [hd.1] at hcell
        have h0 := hcell 0 hs
        obtain ⟨u0, hu0⟩ : ∃ u, cs'[0]? = some u := ⟨_, List.getElem?_eq_getElem (by omega)⟩
        rw [hu0] at h0
        simpa [Addr.add] using World.cell?_spot h0
      have hel : ∀ j, j < len → ∃ (y : α), ∃ b o cs', some a = some (⟨b, o, none⟩ : Addr) ∧ d.K w (fun _ => True) y cs' ∧ ∀ i u, cs'[i]? = some u → w.cell? ⟨b, o + (j * d.sz + i), none⟩ = some u := by
        intro j hj
        obtain ⟨cs', h1, h2⟩ := hx j (by omega)
        obtain ⟨y, hy⟩ := hd.2 n cs' _ h2 (weights_mem hw2 _ (List.mem_map.2 ⟨j, List.mem_range.2 hj, rfl⟩))
        have hcl := d.len hy
        obtain ⟨_, _, hcell⟩ := World.cells?_some h1
        rw [hd.1] at hcell
        obtain ⟨b, o, spot⟩ := a
        obtain rfl : spot = none := hsp (by omega)
        refine ⟨y, b, o, cs', rfl, hy, fun i u hu => ?_⟩
        have hi : i < cs'.length := (List.getElem?_eq_some_iff.1 hu).1
        have h3 := hcell i (by omega)
        rw [hu] at h3
        have e1 : ((⟨b, o, none⟩ : Addr).add (j * d.sz)).add i = ⟨b, o + (j * d.sz + i), none⟩ := by
          unfold Addr.add; split <;> (try split) <;> simp_all <;> omega
        rw [e1] at h3
        exact h3
      obtain ⟨xs, hxl, hxs⟩ := list_choose len hel
      refine ⟨xs, _, rfl, some a, m, by rw [hxl], by omega, by omega, fun j y hy => ?_⟩
      obtain ⟨b, o, cs', h1, h2, h3⟩ := hxs j y hy
      exact ⟨b, o, cs', h1, trivial, h2, h3⟩⟩
theorem reads_row : Reads enc w kRow 41 := reads_slice Tryz.underlying41 (by kernel_rfl) (of_decide_eq_true (by kernel_rfl)) (reads_int Tryz.underlying3 (by kernel_rfl))
theorem reads_rows : Reads enc w kRows 22 := reads_slice Tryz.underlying22 (by kernel_rfl) (of_decide_eq_true (by kernel_rfl)) reads_row
theorem reads_costs : Reads enc w kRow 45 := reads_slice Tryz.underlying45 (by kernel_rfl) (of_decide_eq_true (by kernel_rfl)) (reads_int Tryz.underlying2 (by kernel_rfl))
theorem reads_con : Reads enc w kCon 43 :=
  ⟨by kernel_rfl, fun fuel cs x h hw => by
    obtain ⟨y0, y1, y2, y3, n, rfl, hl, h0, h1, h2, h3⟩ := Go.Joins.trod_struct4 Tryz.underlying43 h
    simp only [DataW.weights, Tryz.underlying43, DataW.weightsEach, List.map_cons, List.map_nil, List.all_append, Bool.and_eq_true] at hw
    obtain ⟨w0, w1, w2, w3, _⟩ := hw
    obtain ⟨c0, c1, c2, c3, rfl⟩ := four (hl.trans (by kernel_rfl))
    rw [show Tryz.prog.cellsOf _ = 1 from by kernel_rfl] at h0 h1 h2 h3
    obtain ⟨k, hk⟩ := (reads_int (enc := enc) (w := w) Tryz.underlying3 (by kernel_rfl)).2 _ _ _ h0 w0
    obtain ⟨ls, v1, e1, hs⟩ := reads_row.2 _ _ _ h1 w1
    obtain ⟨lr, v2, e2, hr⟩ := reads_rows.2 _ _ _ h2 w2
    obtain ⟨la, v3, e3, ha⟩ := reads_row.2 _ _ _ h3 w3
    have hk : c0 = .int .i64 k := by simpa [Kd.int, Kd.scalar] using hk
    obtain rfl : c1 = v1 := by simpa using e1
    obtain rfl : c2 = v2 := by simpa using e2
    obtain rfl : c3 = v3 := by simpa using e3
    subst hk
    exact ⟨⟨k, ls, lr, la⟩, kCon_mk (c := ⟨k, ls, lr, la⟩) hs hr ha⟩⟩
theorem reads_sft : Reads enc w kSft 47 :=
  ⟨by kernel_rfl, fun fuel cs x h hw => by
    obtain ⟨y0, y1, y2, y3, n, rfl, hl, h0, h1, h2, h3⟩ := Go.Joins.trod_struct4 Tryz.underlying47 h
    simp only [DataW.weights, Tryz.underlying47, DataW.weightsEach, List.map_cons, List.map_nil, List.all_append, Bool.and_eq_true] at hw
    obtain ⟨w0, w1, w2, w3, _⟩ := hw
    obtain ⟨c0, c1, c2, c3, rfl⟩ := four (hl.trans (by kernel_rfl))
    rw [show Tryz.prog.cellsOf _ = 1 from by kernel_rfl] at h0 h1 h2 h3
    obtain ⟨ls, v0, e0, hs⟩ := reads_row.2 _ _ _ h0 w0
    obtain ⟨lr, v1, e1, hr⟩ := reads_rows.2 _ _ _ h1 w1
    obtain ⟨lc, v2, e2, hc⟩ := reads_costs.2 _ _ _ h2 w2
    obtain ⟨k, hk⟩ := (reads_int (enc := enc) (w := w) Tryz.underlying2 (by kernel_rfl)).2 _ _ _ h3 w3
    have hk : c3 = .int .i64 k := by simpa [Kd.int, Kd.scalar] using hk
    obtain rfl : c0 = v0 := by simpa using e0
    obtain rfl : c1 = v1 := by simpa using e1
    obtain rfl : c2 = v2 := by simpa using e2
    subst hk
    exact ⟨⟨ls, lr, lc, k⟩, kSft_mk (s := ⟨ls, lr, lc, k⟩) hs hr hc⟩⟩
set_option maxRecDepth 100000 in
theorem open_inst {v : Value} {d : DataW H} {ps : List MemPlace} (hv : Value.okWide Tryz.prog w .any base 26 v) (h : DataW.Trod enc Tryz.prog w 0 (fun _ => true) true 26 v d ps)
    (hsz : (DataW.weightsEach Tryz.prog [26] [d]).all (· ≤ reachBytes) = true) : ∃ v0 v1 v2 x, v = .agg #[v0, v1, v2] ∧ InsAt w (fun _ => True) v0 v1 v2 x := by
  obtain ⟨v0, v1, v2, y0, y1, y2, n, rfl, rfl, rfl, h0, h1, h2⟩ := Go.Joins.open_agg3 Tryz.underlying26 (by kernel_rfl) (by kernel_rfl) hv h
  simp only [DataW.weights, Tryz.underlying26, DataW.weightsEach, List.map_cons, List.map_nil, List.all_append, Bool.and_eq_true, List.append_nil] at hsz
  obtain ⟨w0, w1, w2⟩ := hsz
  obtain ⟨ld, u0, e0, hd⟩ := (reads_rows (enc := enc) (w := w)).2 _ _ _ h0 w0
  obtain ⟨lh, u1, e1, hh⟩ := (reads_slice (hs := by decide) Tryz.underlying23 (by kernel_rfl) (of_decide_eq_true (by kernel_rfl)) (reads_con (enc := enc) (w := w))).2 _ _ _ h1 w1
  obtain ⟨ls, u2, e2, hs⟩ := (reads_slice (hs := by decide) Tryz.underlying24 (by kernel_rfl) (of_decide_eq_true (by kernel_rfl)) (reads_sft (enc := enc) (w := w))).2 _ _ _ h2 w2
  obtain rfl : v0 = u0 := by simpa using e0
  obtain rfl : v1 = u1 := by simpa using e1
  obtain rfl : v2 = u2 := by simpa using e2
  exact ⟨_, _, _, ⟨ld, lh, ls⟩, rfl, hd, hh, hs⟩
end
end Go.Proofs.YtoahaigfjfeopaaGreatDoor

/- THE CARD OF arboristlaw06.InstBack: its contract, its row, its card. -/
namespace Go.Proofs.YtoahaigfjfeopaaGreatDoor.instBack
open Go.ChangeShapes Go.WideShapes Go.ChangeAt Go.RowKit

set_option maxRecDepth 100000 in
theorem contract (H : Type) (enc : TypeId × Value → H) (W : World) (base : Nat) (args : Array Value) (ds gs : List (DataW H)) (before : List MemPlace)
    (hval : ∀ (j : Nat) t v, Tryz.f5.params[j]? = some t → args[j]? = some v → Value.okWide Tryz.prog W .any base t v)
    (hW : DataW.Whole enc Tryz.prog Tryz.f5.params.toList Rows.instBackSpec.vars false W args.toList ds gs before)
    (hsz : (DataW.weightsEach Tryz.prog (Tryz.f5.params.toList ++ []) (ds ++ gs)).all (· ≤ reachBytes) = true) (hL : laidMetH Tryz.prog Rows.instBackRow.laid W) :
    Calls Tryz.prog 5 args W fun e W' => ∃ v, e = .returned v ∧ Rows.instBackSpec.post enc Tryz.prog Tryz.f5 false true false false W args v W' := by
  have hW' := hW
  obtain ⟨p, q, hA0, hV, rfl, hfz, hnd⟩ := hW
  have hA : DataW.TrodAll enc Tryz.prog W 0 (fun _ => true) true Tryz.f5.params.toList args.toList ds p := hA0
  rw [Tryz.params5] at hA hval hsz
  obtain ⟨v0, vs0, d0, ds0, p0, q0, hargs, rfl, rfl, h0, r0⟩ := trodAll_cons hA
  obtain ⟨rfl, rfl, rfl⟩ := trodAll_nil r0
  obtain rfl : args = #[v0] := by cases args; simp_all
  obtain ⟨rfl, rfl⟩ := trodVars_none hV
  simp only [List.append_nil] at hW' hsz
  obtain ⟨u0, u1, u2, x, rfl, hx⟩ := open_inst (hval 0 26 v0 rfl rfl) h0 hsz
  refine (back_law u0 u1 u2 x _ W (env_of_laid hL) hx).mono fun e W' ⟨he, hg⟩ => ?_
  subst he
  exact ⟨_, rfl, post_true1 Tryz.params5 (by kernel_rfl) rfl rfl (by kernel_rfl) (of_decide_eq_true (by kernel_rfl)) h0 hW' hg⟩

theorem reads (os : Os) {H : Type} (enc : TypeId × Value → H) : ∃ places, DataW.whole enc Tryz.prog ((World.doorLaid Tryz.prog 200 os).forCall (fun _ _ => 0) ⟨#[], #[.agg #[.slice none 0 0, .slice none 0 0, .slice none 0 0]], []⟩).memory Tryz.f5.params.toList Rows.instBackSpec.vars false #[Value.agg #[.slice none 0 0, .slice none 0 0, .slice none 0 0]].toList 8 = some ([.agg [.nil, .nil, .nil]], [], places) :=
  ⟨[], by kernel_rfl⟩

set_option maxRecDepth 100000 in
theorem lifted (os : Os) (started : os.Started) (H : Type) (enc : TypeId × Value → H) (F : Stop.Interp) :
    ReturnsInHanded {} Tryz.checked os 5 .any ((OpenSpec.ofChange Rows.instBackSpec).preRow enc Tryz.prog Tryz.f5 Rows.instBackRow.domain false Rows.instBackRow.laid) (((OpenSpec.ofChange Rows.instBackSpec).at F).post enc Tryz.prog Tryz.f5 false true false false) := by
  obtain ⟨places, hx⟩ := reads os enc
  refine returnsInHanded_of_row (C := Tryz.checked) (s := OpenSpec.ofChange Rows.instBackSpec) own_knob started (by kernel_rfl) Tryz.func5
    (witness_row_atRef (enc := enc) (C := Tryz.checked) false (World.doorLaid Tryz.prog 200 os) #[.agg #[.slice none 0 0, .slice none 0 0, .slice none 0 0]] rfl (by kernel_rfl) (by kernel_rfl) (by kernel_rfl)
      (OpenSpec.preRow_of_cond 8 hx (by kernel_rfl) (fun k hk => by cases hk) (by kernel_rfl) (laid_met os _))) ?_
  intro W base args ds gs before hval hW _ _ hsz hL _ _
  exact contract H enc W base args ds gs before hval hW hsz hL

theorem said : Rows.InstBackSaid :=
  OpenClaim.holds_of_cond 5 Tryz.f5 rfl rfl rfl rfl rfl rfl rfl ⟨rfl, rfl, rfl, rfl, rfl⟩ rfl rfl rfl rfl rfl (by kernel_rfl) Tryz.func5 (by kernel_rfl)
    (of_decide_eq_true (by kernel_rfl)) (by unfold Func.isWrapper; first | (rw [if_pos (by decide +kernel)]; kernel_rfl) | (rw [if_neg (by decide +kernel)]; exact ⟨rfl, rfl⟩))
    (fun os started H enc _ F => by rw [OpenClaim.pre_eq_preRow]; exact lifted os started H enc F)

theorem plain (f : FuncId) (fn : Func) (hf : Tryz.pinned.checked.prog.funcNamed "arborist/arboristlaw06.InstBack" = some f) (hfn : Tryz.pinned.checked.prog.funcs[f]? = some fn) :
    true = Tryz.pinned.checked.prog.looks [] ∧ ∀ (j : Nat) t, fn.params[j]? = some t → Tryz.pinned.checked.prog.wantsStandIn t = false := by
  obtain rfl : f = 5 := Option.some.inj ((show Tryz.prog.funcNamed "arborist/arboristlaw06.InstBack" = some 5 by kernel_rfl).symm.trans hf) |>.symm
  obtain rfl : fn = Tryz.f5 := (Option.some.inj (Tryz.func5.symm.trans hfn)).symm
  refine ⟨by kernel_rfl, fun j t ht => ?_⟩
  rw [Tryz.params5] at ht
  obtain rfl : t = 26 := by simpa using Array.mem_of_getElem? ht
  exact (show Tryz.prog.wantsStandIn 26 = false by kernel_rfl)

theorem card : Rows.InstBackCardSaid :=
  Claim7.holds_tied_plain_at .later [] _ _ _ _ said (fun _ h => by cases h) (by kernel_rfl) (fun _ h => by cases h) instBack_row_tie rfl ⟨rfl, rfl⟩ (by kernel_rfl) rfl plain (by kernel_rfl)
end Go.Proofs.YtoahaigfjfeopaaGreatDoor.instBack
