/- Texts joined: Wav Pj Pk Pl Waw Way Waz Pm Pn Po Pp. -/
import Derived.Test.YtgpgmmkkmoecmaaGreatDoorPpd
import Derived.BigQuiet
import Derived.Test.YtgpgmmkkmoecmaaGreatDoorPpa
import Derived.Lib.ItoaNum
import Derived.Lib.ParseIntBCases
import Derived.Test.YtgpgmmkkmoecmaaGreatDoorPpe
import Derived.Test.YtgpgmmkkmoecmaaGreatDoorPpb
/- arboristref06.Right: its parts. -/
namespace Go.Proofs.YtgpgmmkkmoecmaaGreatDoor
open Go.RowKit
attribute [local irreducible] wpStill wpLex Calls

theorem refrising_any (v : Value) (xs : List Int) (ok : Nat → Prop) (w : World) (h1 : Sl (Kd.int .i64) w ok v xs) :
    Calls Tryz.prog 16 #[v] w fun e w' => e = .returned (.bool (risingB xs)) ∧ ∃ n, w' = w.drewN n := by
  obtain ⟨A, c, rfl, hc, hm, hA⟩ := h1
  go_enter Tryz.func16, Tryz.ntmps16
  go_wp2
  go_loopw [3] (fun i wr => ∃ k : Nat, i = .int .i64 (k + 1) ∧ Hid (risingB xs = risingB (xs.drop k)) ∧ (k ≤ xs.length) ∧ ∃ n, wr = w.drewN n) (fun i _ => xs.length - (intOf i).toNat)
  case atStart => exact ⟨0, rfl, Lib.hid rfl, by omega, 0, rfl⟩
  case round =>
    obtain ⟨k, rfl, H, hk, nd, rfl⟩ := hrel
    by_cases hlt : k + 1 < xs.length
    · obtain ⟨b, o, rfl, c1⟩ := hA.num (j := k) (by omega)
      obtain ⟨b', o', he, c2⟩ := hA.num hlt
      injection he with he
      injection he with he1 he2
      subst he1 he2
      have H' := Lib.hid (risingB_drop xs k hlt)
      have h1 : IntKind.i64.wrap ((k:Int) + 1 - 1) = k := by rw [show (k:Int) + 1 - 1 = k from by omega]; exact IntWalk.i64_in _ (by omega)
      have h2 : ((k:Int) + 1).toNat = k + 1 := by omega
      clear hA
      by_cases h : nth 0 xs (k + 1) ≤ nth 0 xs k
      · go_wp2
        go_quiet (fail)
        go_wp2
        go_ret
        exact ⟨ret_bool (by rw [H.out, H'.out]; simp; omega), by first | exact ⟨_, rfl⟩ | exact ⟨_, World.drewN_drewN ..⟩⟩
      · go_wp2
        go_quiet (fail)
        go_wp2
        go_roundw
        case rel => exact ⟨k + 1, by go_num, Lib.hid (by rw [H.out, H'.out]; simp; omega), by omega, _, rfl⟩
        case measure => simp [intOf]; omega
    · go_wp2
      go_ret
      exact ⟨ret_bool (by rw [H.out, risingB_last xs k (by omega)]), _, rfl⟩
theorem refsmall_any (n m : Int) (w : World) (h3 : 0 ≤ m) (h4 : m ≤ 9223372036854775807) :
    Calls Tryz.prog 17 #[.int .i64 n, .int .i64 m] w fun e w' => e = .returned (.bool (smallB n m)) ∧ w = w' := by
  by_cases h : -m ≤ n
  · go_enter Tryz.func17, Tryz.ntmps17
    go_wp2
    go_ret
    exact ⟨by simp [smallB, h], rfl⟩
  · go_enter Tryz.func17, Tryz.ntmps17
    go_wp2
    go_ret
    exact ⟨by simp [smallB]; omega, rfl⟩
theorem refin_any (v : Value) (xs : List Int) (x : Int) (ok : Nat → Prop) (w : World) (h1 : Sl (Kd.int .i64) w ok v xs) :
    Calls Tryz.prog 88 #[v, .int .i64 x] w fun e w' => e = .returned (.bool (decide (x ∈ xs))) ∧ w = w' := by
  obtain ⟨A, c, rfl, hc, hm, hA⟩ := h1
  go_enter Tryz.func88, Tryz.ntmps88
  go_wp2
  go_loop [5] (fun i => ∃ k : Nat, i = .int .i64 k ∧ k ≤ xs.length ∧ Hid (decide (x ∈ xs) = decide (x ∈ xs.drop k))) (fun i => xs.length - (intOf i).toNat)
  case atStart => exact ⟨0, rfl, by omega, Lib.hid rfl⟩
  case round =>
    obtain ⟨k, rfl, hk, H⟩ := hrel
    by_cases hlt : k < xs.length
    · obtain ⟨b, o, rfl, c1⟩ := hA.num hlt
      have H' : Hid (decide (x ∈ xs.drop k) = (decide (x = nth 0 xs k) || decide (x ∈ xs.drop (k + 1)))) := Lib.hid (by rw [drop_cons xs 0 k hlt]; simp)
      clear hA
      by_cases he : nth 0 xs k = x
      · have hb : (nth 0 xs k == x) = true := by simp [he]
        have HE := Lib.hid he
        clear he
        go_wp2
        go_ret
        exact ⟨ret_bool (by rw [H.out, H'.out, HE.out]; simp), rfl⟩
      · have hb : (nth 0 xs k == x) = false := by simp [he]
        have HE := Lib.hid he
        clear he
        go_wp2
        go_round
        case rel => exact ⟨k + 1, by go_num, by omega, Lib.hid (by rw [H.out, H'.out, decide_eq_false (fun e => HE.out e.symm), Bool.false_or])⟩
        case measure => simp [intOf]; omega
    · go_wp2
      go_ret
      exact ⟨ret_bool (by rw [H.out, List.drop_eq_nil_of_le (by omega)]; simp), rfl⟩
theorem refscope_any (vD vH vS v : Value) (doms : List (List Int)) (xs : List Int) (ok : Nat → Prop) (w : World) (hD : Sl kRow w ok vD doms) (h1 : Sl (Kd.int .i64) w ok v xs) :
    Calls Tryz.prog 47 #[.agg #[vD, vH, vS], v] w fun e w' => e = .returned (.bool (scopeB doms.length xs)) ∧ Below w.heap.size w w' := by
  obtain ⟨A', c', rfl, hc', hm', hA'⟩ := hD
  have H := Sl.below (by decide) h1 (below_alloc1 w (.cells #[.slice A' doms.length c', vH, vS] 30))
  have HB := below_alloc1 w (.cells #[.slice A' doms.length c', vH, vS] 30)
  have HX := heap_alloc_new w (.cells #[.slice A' doms.length c', vH, vS] 30)
  obtain ⟨A, c, rfl, hc, hm, hA⟩ := h1
  have hA := Sl.elems H
  have HR := Lib.hid (refrising_any _ _ _ _ H)
  by_cases h0 : 0 < xs.length
  · by_cases h6 : xs.length ≤ 6
    · obtain ⟨b, o, rfl, c0⟩ := hA.num h0
      obtain ⟨b', o', he, c1⟩ := hA.num (j := xs.length - 1) (by omega)
      injection he with he
      injection he with he1 he2
      subst he1 he2
      simp only [Nat.add_zero] at c0
      have hs0 : IntKind.i64.wrap ((xs.length:Int) - 1) = (xs.length:Int) - 1 := IntWalk.i64_in _ (by omega)
      have hs1 : ((xs.length:Int) - 1).toNat = xs.length - 1 := by omega
      have hs2 : ¬ xs.length < 1 := by omega
      clear hA hA' H
      cases hr : risingB xs
      · rw [hr] at HR
        have hrh := Lib.hid hr
        clear hr c0 c1 HX
        go_enter Tryz.func47, Tryz.ntmps47
        go_wp2_with (go_at_call 16; refine HR.out.mono ?_; rintro e w1 ⟨rfl, n, rfl⟩)
        go_ret
        exact ⟨ret_bool (by simp [scopeB, hrh.out]), below_drewN HB _⟩
      · rw [hr] at HR
        have hrh := Lib.hid hr
        have x0 := cell_at HX (i := 0) rfl
        clear hr HX
        by_cases h00 : 0 ≤ nth 0 xs 0
        · go_enter Tryz.func47, Tryz.ntmps47
          go_wp2_with (go_at_call 16; refine HR.out.mono ?_; rintro e w1 ⟨rfl, n, rfl⟩)
          go_quiet (fail)
          go_wp2
          go_ret
          exact ⟨ret_bool (by simp [scopeB, hrh.out, h00, h6, h0]), below_drewN (below_drewN HB _) _⟩
        · have hd0 : decide (0 ≤ nth 0 xs 0) = false := decide_eq_false h00
          go_enter Tryz.func47, Tryz.ntmps47
          go_wp2_with (go_at_call 16; refine HR.out.mono ?_; rintro e w1 ⟨rfl, n, rfl⟩)
          go_quiet (fail)
          go_wp2
          go_ret
          exact ⟨ret_bool (by simp [scopeB, hrh.out]; intros; omega), below_drewN (below_drewN HB _) _⟩
    · have hs2 : ¬ xs.length < 1 := by omega
      clear hA hA' H HX HR
      go_enter Tryz.func47, Tryz.ntmps47
      go_wp2
      go_ret
      exact ⟨ret_bool (by simp [scopeB, h6]), HB⟩
  · have hs2 : xs.length < 1 := by omega
    clear hA hA' H HX HR
    go_enter Tryz.func47, Tryz.ntmps47
    go_wp2
    go_ret
    exact ⟨ret_bool (by simp [scopeB, h0]), HB⟩
theorem rowsB_pos (doms : List (List Int)) (scope : List Int) (rows : List (List Int)) (k : Nat) (hk : 0 < k) (h : k < rows.length) :
    rowsB doms scope (ahead rows k) (rows.drop k) = (decide ((nth [] rows k).length = scope.length) && decide (cmpL (nth [] rows (k - 1)) (nth [] rows k) < 0) && inDoms doms scope (nth [] rows k) && rowsB doms scope (ahead rows (k + 1)) (rows.drop (k + 1))) := by
  obtain ⟨j, rfl⟩ : ∃ j, k = j + 1 := ⟨k - 1, by omega⟩
  exact rowsB_drop doms scope rows (j + 1) h
theorem rowsB_nul (doms : List (List Int)) (scope : List Int) (rows : List (List Int)) (h : 0 < rows.length) :
    rowsB doms scope (ahead rows 0) (rows.drop 0) = (decide ((nth [] rows 0).length = scope.length) && true && inDoms doms scope (nth [] rows 0) && rowsB doms scope (ahead rows 1) (rows.drop 1)) :=
  rowsB_drop doms scope rows 0 h
set_option maxRecDepth 100000 in
set_option maxHeartbeats 4000000 in
theorem refrows_any (vD vH vS vs v : Value) (doms : List (List Int)) (scope : List Int) (rows : List (List Int)) (ok : Nat → Prop) (w : World) (hD : Sl kRow w ok vD doms) (hs : Sl (Kd.int .i64) w ok vs scope) (hr : Sl kRow w ok v rows)
    (hsc : ∀ k, k < scope.length → 0 ≤ nth 0 scope k ∧ nth 0 scope k < doms.length) :
    Calls Tryz.prog 48 #[.agg #[vD, vH, vS], vs, v] w fun e w' => e = .returned (.bool (rowsB doms scope none rows)) ∧ Below w.heap.size w w' := by
  obtain ⟨AD, cD, rfl, hcD, hmD, hAD⟩ := hD
  have HB := Lib.hid (below_alloc1 w (.cells #[.slice AD doms.length cD, vH, vS] 30))
  have HX := Lib.hid (heap_alloc_new w (.cells #[.slice AD doms.length cD, vH, vS] 30))
  have HD := Lib.hid (Sl.below (v := .slice AD doms.length cD) (xs := doms) (by decide) ⟨AD, cD, rfl, hcD, hmD, hAD⟩ HB.out)
  clear hAD
  obtain ⟨As, cs, rfl, hcs, hms, hAs⟩ := hs
  have HS := Lib.hid (Sl.below (v := .slice As scope.length cs) (xs := scope) (by decide) ⟨As, cs, rfl, hcs, hms, hAs⟩ HB.out)
  clear hAs
  obtain ⟨A, c, rfl, hc, hm, hA⟩ := hr
  have HR := Lib.hid (Sl.below (v := .slice A rows.length c) (xs := rows) (by decide) ⟨A, c, rfl, hc, hm, hA⟩ HB.out)
  clear hA
  have hsc' := Lib.hid hsc
  clear hsc
  go_enter Tryz.func48, Tryz.ntmps48
  go_wp2_with fail
  generalize w.alloc (.cells #[.slice AD doms.length cD, vH, vS] 30) = W0 at *
  go_loopw [7, 8, 9] (fun i _ _ wr => ∃ k : Nat, i = .int .i64 k ∧ k ≤ rows.length ∧ Hid (rowsB doms scope none rows = rowsB doms scope (ahead rows k) (rows.drop k)) ∧ Hid (Below W0.heap.size W0 wr)) (fun i _ _ _ => rows.length - (intOf i).toNat)
  case atStart => exact ⟨0, rfl, by omega, Lib.hid rfl, Lib.hid (Below.refl _ _)⟩
  case round =>
    obtain ⟨k, rfl, hk, H, HW⟩ := hrel
    by_cases hkl : k < rows.length
    · obtain ⟨b, o, vt, rfl, c1, ht⟩ := HR.out.elems.row hkl
      have HT := Lib.hid ht
      obtain ⟨At, ct, rfl, hct, hmt, _⟩ := ht
      have HWD := Lib.hid (below_next HW.out (Below.drew (Below.refl _ _)))
      have c0 := c1
      have c1 := cell_kept HWD.out c1
      by_cases hlen : (nth [] rows k).length = scope.length
      · have hb : (((nth [] rows k).length : Int) != scope.length) = false := by simp; omega
        have HLEN := Lib.hid hlen
        have hlen2 : scope.length ≤ (nth [] rows k).length := by omega
        clear hlen
        by_cases hpos : 0 < k
        · obtain ⟨b', o', vp, he, c2, hp⟩ := HR.out.elems.row (j := k - 1) (by omega)
          injection he with he
          injection he with he1 he2
          subst he1 he2
          have hs0 : IntKind.i64.wrap ((k:Int) - 1) = (k:Int) - 1 := IntWalk.i64_in _ (by omega)
          have hs1 : ((k:Int) - 1).toNat = k - 1 := by omega
          have hi1 : (1 : Int) ≤ (k : Int) := by omega
          have hi2 : (k : Int) - 1 < rows.length := by omega
          have c2 := cell_kept HWD.out c2
          have HP := Lib.hid hp
          obtain ⟨Ap, cp, rfl, _, _, _⟩ := hp
          have hcp := Lib.hid (refcmp_any (.slice Ap (nth [] rows (k - 1)).length cp) (.slice At (nth [] rows k).length ct) _ _ ok _ (HP.out.below (by decide) HWD.out) (HT.out.below (by decide) HWD.out))
          by_cases hcmp : cmpL (nth [] rows (k - 1)) (nth [] rows k) < 0
          · have Hx : Hid (rowsB doms scope none rows = (inDoms doms scope (nth [] rows k) && rowsB doms scope (ahead rows (k + 1)) (rows.drop (k + 1)))) := by
              apply Lib.hid; rw [H.out, rowsB_pos doms scope rows k hpos hkl, decide_eq_true hcmp, HLEN.out]; simp only [decide_true, Bool.true_and]
            clear H
            go_wp2_with fail
            refine wp_region_still_tail 21 (by kernel_rfl) (by kernel_rfl) ?_
            change wpStill _ _ (World.drew wr) (fun a' => wpList _ _ _ _ a' (World.drew wr)) _ _
            generalize World.drew wr = W at *
            simp only [List.take_succ_cons, List.take_zero, List.drop_succ_cons, List.drop_zero]
            repeat (first | (refine still_plain rfl (fun K hK => ?_); go_simp; refine hK _ ?_; clear hK K) | (refine still_off _ _ _ _ _ rfl rfl rfl rfl rfl (fun K hK => ?_); go_simp; refine hK _ ?_; clear hK K) | (refine still_on _ _ _ _ rfl rfl rfl rfl (fun K hK => ?_); go_simp; refine hK _ ?_; clear hK K) | (refine still_dead _ _ _ _ rfl rfl rfl rfl (fun K hK => ?_); go_simp; refine hK _ ?_; clear hK K))
            refine wpStill_nil ?_
            go_wp2_with (go_at_call 72; refine hcp.out.mono ?_; rintro e w2 ⟨rfl, n, rfl⟩)
            have HW2 := Lib.hid (below_drewN HWD.out n)
            clear hcp c2 c1 HP hs0 hs1 hi1 hi2
            generalize W.drewN n = W2 at *
            go_loopw [8, 9] (fun i _ wr => ∃ m : Nat, i = .int .i64 m ∧ m ≤ scope.length ∧ Hid (inDoms doms scope (nth [] rows k) = inDoms doms (scope.drop m) ((nth [] rows k).drop m)) ∧ Hid (Below W0.heap.size W0 wr)) (fun i _ _ => scope.length - (intOf i).toNat)
            case atStart => exact ⟨0, rfl, by omega, Lib.hid rfl, HW2⟩
            case round =>
              obtain ⟨m, rfl, hm1, G, HW3⟩ := hrel
              by_cases hml : m < scope.length
              · obtain ⟨b1, o1, rfl, d1⟩ := HS.out.elems.num hml
                obtain ⟨b2, o2, rfl, d2⟩ := HT.out.elems.num (j := m) (by omega)
                obtain ⟨q1, q2⟩ := hsc'.out m hml
                obtain ⟨b3, o3, v3, rfl, d3, hd3⟩ := HD.out.elems.row (j := (nth 0 scope m).toNat) (by omega)
                have G' := Lib.hid (inDoms_drop doms scope (nth [] rows k) m hml (by omega))
                have HWE := Lib.hid (below_next HW3.out (Below.drew (Below.refl _ _)))
                have d1 := cell_kept HWE.out d1
                have d2 := cell_kept HWE.out d2
                have d3 := cell_kept HWE.out d3
                have hmr : m < (nth [] rows k).length := by omega
                have c4 := cell_kept HWE.out c0
                have x0 := cell_at (block_kept HWE.out HX.out) (i := 0) rfl
                have hin := Lib.hid (refin_any v3 _ (nth 0 (nth [] rows k) m) ok _ (hd3.below (by decide) HWE.out))
                clear hd3
                cases hmem : decide (nth 0 (nth [] rows k) m ∈ nth [] doms (nth 0 scope m).toNat)
                · rw [hmem] at hin
                  go_wp2_with fail
                  refine wp_region_still_tail 15 (by kernel_rfl) (by kernel_rfl) ?_
                  change wpStill _ _ (World.drew wr) (fun a' => wpList _ _ _ _ a' (World.drew wr)) _ _
                  generalize World.drew wr = W5 at *
                  simp only [List.take_succ_cons, List.take_zero, List.drop_succ_cons, List.drop_zero]
                  repeat (first | (refine still_plain rfl (fun K hK => ?_); go_simp; refine hK _ ?_; clear hK K) | (refine still_off _ _ _ _ _ rfl rfl rfl rfl rfl (fun K hK => ?_); go_simp; refine hK _ ?_; clear hK K) | (refine still_on _ _ _ _ rfl rfl rfl rfl (fun K hK => ?_); go_simp; refine hK _ ?_; clear hK K) | (refine still_dead _ _ _ _ rfl rfl rfl rfl (fun K hK => ?_); go_simp; refine hK _ ?_; clear hK K))
                  refine wpStill_nil ?_
                  go_wp2_with (go_at_call 88; refine hin.out.mono ?_; rintro e w5 ⟨rfl, rfl⟩)
                  go_ret
                  exact ⟨ret_bool (by rw [Hx.out, G.out, G'.out, hmem]; simp), HB.out.trans (HWE.out.mono HB.out.size)⟩
                · rw [hmem] at hin
                  go_wp2_with fail
                  refine wp_region_still_tail 15 (by kernel_rfl) (by kernel_rfl) ?_
                  change wpStill _ _ (World.drew wr) (fun a' => wpList _ _ _ _ a' (World.drew wr)) _ _
                  generalize World.drew wr = W5 at *
                  simp only [List.take_succ_cons, List.take_zero, List.drop_succ_cons, List.drop_zero]
                  repeat (first | (refine still_plain rfl (fun K hK => ?_); go_simp; refine hK _ ?_; clear hK K) | (refine still_off _ _ _ _ _ rfl rfl rfl rfl rfl (fun K hK => ?_); go_simp; refine hK _ ?_; clear hK K) | (refine still_on _ _ _ _ rfl rfl rfl rfl (fun K hK => ?_); go_simp; refine hK _ ?_; clear hK K) | (refine still_dead _ _ _ _ rfl rfl rfl rfl (fun K hK => ?_); go_simp; refine hK _ ?_; clear hK K))
                  refine wpStill_nil ?_
                  go_wp2_with (go_at_call 88; refine hin.out.mono ?_; rintro e w5 ⟨rfl, rfl⟩)
                  go_roundw
                  case rel => exact ⟨m + 1, by go_num, by omega, Lib.hid (by rw [G.out, G'.out, hmem]; simp), HWE⟩
                  case measure => simp [intOf]; omega
              · go_wp2
                go_roundw
                case rel => exact ⟨k + 1, by go_num, by omega, Lib.hid (by rw [Hx.out, G.out, List.drop_eq_nil_of_le (show scope.length ≤ m by omega)]; simp [inDoms]), HW3⟩
                case measure => simp [intOf]; omega
          · have Hx : Hid (rowsB doms scope none rows = false) := by
              apply Lib.hid; rw [H.out, rowsB_pos doms scope rows k hpos hkl, decide_eq_false hcmp]; simp
            clear H
            go_wp2_with fail
            refine wp_region_still_tail 21 (by kernel_rfl) (by kernel_rfl) ?_
            change wpStill _ _ (World.drew wr) (fun a' => wpList _ _ _ _ a' (World.drew wr)) _ _
            generalize World.drew wr = W at *
            simp only [List.take_succ_cons, List.take_zero, List.drop_succ_cons, List.drop_zero]
            repeat (first | (refine still_plain rfl (fun K hK => ?_); go_simp; refine hK _ ?_; clear hK K) | (refine still_off _ _ _ _ _ rfl rfl rfl rfl rfl (fun K hK => ?_); go_simp; refine hK _ ?_; clear hK K) | (refine still_on _ _ _ _ rfl rfl rfl rfl (fun K hK => ?_); go_simp; refine hK _ ?_; clear hK K) | (refine still_dead _ _ _ _ rfl rfl rfl rfl (fun K hK => ?_); go_simp; refine hK _ ?_; clear hK K))
            refine wpStill_nil ?_
            go_wp2_with (go_at_call 72; refine hcp.out.mono ?_; rintro e w2 ⟨rfl, n, rfl⟩)
            go_ret
            exact ⟨ret_bool (by rw [Hx.out]), HB.out.trans ((below_drewN HWD.out n).mono HB.out.size)⟩
        · have hk0 : k = 0 := by omega
          have Hx : Hid (rowsB doms scope none rows = (inDoms doms scope (nth [] rows k) && rowsB doms scope (ahead rows (k + 1)) (rows.drop (k + 1)))) := by
            apply Lib.hid
            subst hk0
            rw [H.out, rowsB_nul doms scope rows hkl, HLEN.out]; simp only [decide_true, Bool.true_and]
          clear H hk0
          have hd0 : decide (0 < (k : Int)) = false := decide_eq_false (by omega)
          go_wp2_with fail
          refine wp_region_still_tail 21 (by kernel_rfl) (by kernel_rfl) ?_
          change wpStill _ _ (World.drew wr) (fun a' => wpList _ _ _ _ a' (World.drew wr)) _ _
          generalize World.drew wr = W at *
          simp only [List.take_succ_cons, List.take_zero, List.drop_succ_cons, List.drop_zero]
          repeat (first | (refine still_plain rfl (fun K hK => ?_); go_simp; refine hK _ ?_; clear hK K) | (refine still_off _ _ _ _ _ rfl rfl rfl rfl rfl (fun K hK => ?_); go_simp; refine hK _ ?_; clear hK K) | (refine still_on _ _ _ _ rfl rfl rfl rfl (fun K hK => ?_); go_simp; refine hK _ ?_; clear hK K) | (refine still_dead _ _ _ _ rfl rfl rfl rfl (fun K hK => ?_); go_simp; refine hK _ ?_; clear hK K))
          refine wpStill_nil ?_
          have HW2 := Lib.hid HWD.out
          clear c1
          go_wp2_with fail
          generalize hWW : W = W2 at *
          go_loopw [8, 9] (fun i _ wr => ∃ m : Nat, i = .int .i64 m ∧ m ≤ scope.length ∧ Hid (inDoms doms scope (nth [] rows k) = inDoms doms (scope.drop m) ((nth [] rows k).drop m)) ∧ Hid (Below W0.heap.size W0 wr)) (fun i _ _ => scope.length - (intOf i).toNat)
          case atStart => exact ⟨0, rfl, by omega, Lib.hid rfl, HW2⟩
          case round =>
            obtain ⟨m, rfl, hm1, G, HW3⟩ := hrel
            by_cases hml : m < scope.length
            · obtain ⟨b1, o1, rfl, d1⟩ := HS.out.elems.num hml
              obtain ⟨b2, o2, rfl, d2⟩ := HT.out.elems.num (j := m) (by omega)
              obtain ⟨q1, q2⟩ := hsc'.out m hml
              obtain ⟨b3, o3, v3, rfl, d3, hd3⟩ := HD.out.elems.row (j := (nth 0 scope m).toNat) (by omega)
              have G' := Lib.hid (inDoms_drop doms scope (nth [] rows k) m hml (by omega))
              have HWE := Lib.hid (below_next HW3.out (Below.drew (Below.refl _ _)))
              have d1 := cell_kept HWE.out d1
              have d2 := cell_kept HWE.out d2
              have d3 := cell_kept HWE.out d3
              have hmr : m < (nth [] rows k).length := by omega
              have c4 := cell_kept HWE.out c0
              have x0 := cell_at (block_kept HWE.out HX.out) (i := 0) rfl
              have hin := Lib.hid (refin_any v3 _ (nth 0 (nth [] rows k) m) ok _ (hd3.below (by decide) HWE.out))
              clear hd3
              cases hmem : decide (nth 0 (nth [] rows k) m ∈ nth [] doms (nth 0 scope m).toNat)
              · rw [hmem] at hin
                go_wp2_with fail
                refine wp_region_still_tail 15 (by kernel_rfl) (by kernel_rfl) ?_
                change wpStill _ _ (World.drew wr) (fun a' => wpList _ _ _ _ a' (World.drew wr)) _ _
                generalize World.drew wr = W5 at *
                simp only [List.take_succ_cons, List.take_zero, List.drop_succ_cons, List.drop_zero]
                repeat (first | (refine still_plain rfl (fun K hK => ?_); go_simp; refine hK _ ?_; clear hK K) | (refine still_off _ _ _ _ _ rfl rfl rfl rfl rfl (fun K hK => ?_); go_simp; refine hK _ ?_; clear hK K) | (refine still_on _ _ _ _ rfl rfl rfl rfl (fun K hK => ?_); go_simp; refine hK _ ?_; clear hK K) | (refine still_dead _ _ _ _ rfl rfl rfl rfl (fun K hK => ?_); go_simp; refine hK _ ?_; clear hK K))
                refine wpStill_nil ?_
                go_wp2_with (go_at_call 88; refine hin.out.mono ?_; rintro e w5 ⟨rfl, rfl⟩)
                go_ret
                exact ⟨ret_bool (by rw [Hx.out, G.out, G'.out, hmem]; simp), HB.out.trans (HWE.out.mono HB.out.size)⟩
              · rw [hmem] at hin
                go_wp2_with fail
                refine wp_region_still_tail 15 (by kernel_rfl) (by kernel_rfl) ?_
                change wpStill _ _ (World.drew wr) (fun a' => wpList _ _ _ _ a' (World.drew wr)) _ _
                generalize World.drew wr = W5 at *
                simp only [List.take_succ_cons, List.take_zero, List.drop_succ_cons, List.drop_zero]
                repeat (first | (refine still_plain rfl (fun K hK => ?_); go_simp; refine hK _ ?_; clear hK K) | (refine still_off _ _ _ _ _ rfl rfl rfl rfl rfl (fun K hK => ?_); go_simp; refine hK _ ?_; clear hK K) | (refine still_on _ _ _ _ rfl rfl rfl rfl (fun K hK => ?_); go_simp; refine hK _ ?_; clear hK K) | (refine still_dead _ _ _ _ rfl rfl rfl rfl (fun K hK => ?_); go_simp; refine hK _ ?_; clear hK K))
                refine wpStill_nil ?_
                go_wp2_with (go_at_call 88; refine hin.out.mono ?_; rintro e w5 ⟨rfl, rfl⟩)
                go_roundw
                case rel => exact ⟨m + 1, by go_num, by omega, Lib.hid (by rw [G.out, G'.out, hmem]; simp), HWE⟩
                case measure => simp [intOf]; omega
            · go_wp2
              go_roundw
              case rel => exact ⟨k + 1, by go_num, by omega, Lib.hid (by rw [Hx.out, G.out, List.drop_eq_nil_of_le (show scope.length ≤ m by omega)]; simp [inDoms]), HW3⟩
              case measure => simp [intOf]; omega
      · have hb : (((nth [] rows k).length : Int) != scope.length) = true := by simp; omega
        have Hx : Hid (rowsB doms scope none rows = false) := by
          apply Lib.hid; rw [H.out, rowsB_drop doms scope rows k hkl, decide_eq_false hlen]; simp
        clear H
        go_wp2_with fail
        refine wp_region_still_tail 21 (by kernel_rfl) (by kernel_rfl) ?_
        change wpStill _ _ (World.drew wr) (fun a' => wpList _ _ _ _ a' (World.drew wr)) _ _
        generalize World.drew wr = W at *
        simp only [List.take_succ_cons, List.take_zero, List.drop_succ_cons, List.drop_zero]
        repeat (first | (refine still_plain rfl (fun K hK => ?_); go_simp; refine hK _ ?_; clear hK K) | (refine still_off _ _ _ _ _ rfl rfl rfl rfl rfl (fun K hK => ?_); go_simp; refine hK _ ?_; clear hK K) | (refine still_on _ _ _ _ rfl rfl rfl rfl (fun K hK => ?_); go_simp; refine hK _ ?_; clear hK K) | (refine still_dead _ _ _ _ rfl rfl rfl rfl (fun K hK => ?_); go_simp; refine hK _ ?_; clear hK K))
        refine wpStill_nil ?_
        go_wp2
        go_ret
        exact ⟨ret_bool (by rw [Hx.out]), HB.out.trans (HWD.out.mono HB.out.size)⟩
    · go_wp2
      go_ret
      exact ⟨ret_bool (by rw [H.out, List.drop_eq_nil_of_le (by omega)]; cases k <;> rfl), HB.out.trans (HW.out.mono HB.out.size)⟩
end Go.Proofs.YtgpgmmkkmoecmaaGreatDoor

/- A number's text, and the number that it is read as. -/
namespace Go.Proofs.YtgpgmmkkmoecmaaGreatDoor

theorem uintM_append (M : Nat) : ∀ (a b : List UInt8) (acc v : Nat), Lib.parseUintM M acc a = .ok v → Lib.parseUintM M acc (a ++ b) = Lib.parseUintM M v b
  | [], b, acc, v, h => by
    injection h with h
    rw [h]; rfl
  | c :: a, b, acc, v, h => by
    rw [Lib.parseUintM] at h
    rw [List.cons_append, Lib.parseUintM]
    split at h
    · rename_i h1
      rw [if_pos h1]
      split at h
      · cases h
      · rename_i h2
        rw [if_neg h2]
        split at h
        · cases h
        · rename_i h3
          rw [if_neg h3]
          exact uintM_append M a b _ v h
    · cases h
theorem uintM_one (M acc d : Nat) (hd : d < 10) (h1 : acc < 1844674407370955162) (h2 : acc * 10 + d ≤ M) : Lib.parseUintM M acc [UInt8.ofNat (48 + d)] = .ok (acc * 10 + d) := by
  have e : (UInt8.ofNat (48 + d)).toNat = 48 + d := by rw [UInt8.toNat_ofNat']; omega
  rw [Lib.parseUintM, e, if_pos (by omega), if_neg (by omega), show 48 + d - 48 = d by omega, if_neg (by omega)]
  rfl
theorem uintM_dec (M : Nat) (hM : 1000000000000 ≤ M) : ∀ (u : Nat), u ≤ 1000000000000 → Lib.parseUintM M 0 (Lib.decDigits u) = .ok u := by
  intro u
  induction u using Nat.strongRecOn with
  | ind u ih =>
  intro hu
  by_cases h : u < 10
  · rw [Lib.decDigits_one h, uintM_one M 0 u h (by omega) (by omega)]
    congr 1; omega
  · rw [Lib.decDigits, dif_neg h, uintM_append M _ _ 0 (u / 10) (ih (u / 10) (by omega) (by omega)), uintM_one M (u / 10) (u % 10) (by omega) (by omega) (by omega)]
    congr 1; omega
theorem dec_digits : ∀ (u : Nat), ∀ c ∈ Lib.decDigits u, isDigit c = true := by
  intro u
  induction u using Nat.strongRecOn with
  | ind u ih =>
  by_cases h : u < 10
  · rw [Lib.decDigits_one h]
    intro c hc
    rw [List.mem_singleton] at hc
    subst hc
    have e : (UInt8.ofNat (48 + u)).toNat = 48 + u := by rw [UInt8.toNat_ofNat']; omega
    simp [isDigit]; omega
  · rw [Lib.decDigits, dif_neg h]
    intro c hc
    rcases List.mem_append.1 hc with hc | hc
    · exact ih (u / 10) (by omega) c hc
    · rw [List.mem_singleton] at hc
      subst hc
      have e : (UInt8.ofNat (48 + u % 10)).toNat = 48 + u % 10 := by rw [UInt8.toNat_ofNat']; omega
      simp [isDigit]; omega
theorem dec_ne (u : Nat) : Lib.decDigits u ≠ [] := by
  intro h
  have := Lib.decDigits_length u
  have := Lib.nDigits_pos u
  rw [h] at *
  simp at *
  omega
theorem head_app {a b : List UInt8} (h : a ≠ []) : (a ++ b).head? = a.head? := by
  cases a with
  | nil => exact absurd rfl h
  | cons c r => rfl
theorem dec_head : ∀ (u : Nat), (Lib.decDigits u).head? = some 48 → u = 0 := by
  intro u
  induction u using Nat.strongRecOn with
  | ind u ih =>
  intro hh
  by_cases h : u < 10
  · rw [Lib.decDigits_one h] at hh
    injection hh with hh
    have e : (UInt8.ofNat (48 + u)).toNat = 48 + u := by rw [UInt8.toNat_ofNat']; omega
    rw [hh] at e
    have : (48 : UInt8).toNat = 48 := rfl
    omega
  · rw [Lib.decDigits, dif_neg h, head_app (dec_ne _)] at hh
    have := ih (u / 10) (by omega) hh
    omega
theorem run_all (p : UInt8 → Bool) : ∀ (a r : List UInt8), (∀ c ∈ a, p c = true) → (∀ c, r.head? = some c → p c = false) → runP p (a ++ r) = a.length
  | [], [], _, _ => rfl
  | [], c :: r, _, h => by
    show runP p (c :: r) = 0
    rw [runP, h c rfl]; rfl
  | c :: a, r, h, h2 => by
    rw [List.cons_append, runP, if_pos (h c (List.mem_cons_self ..)), run_all p a r (fun d hd => h d (List.mem_cons_of_mem _ hd)) h2]; rfl
theorem run_mem (p : UInt8 → Bool) : ∀ (l : List UInt8), ∀ c ∈ l.take (runP p l), p c = true
  | [], c, h => by simp at h
  | d :: r, c, h => by
    rw [runP] at h
    split at h
    · rename_i hd
      rw [List.take_succ_cons] at h
      rcases List.mem_cons.1 h with rfl | h
      · exact hd
      · exact run_mem p r c h
    · simp at h
/-- What the numeral of a number that fits is read as. -/
theorem numP_itoa (n : Int) (h0 : -1000000000000 ≤ n) (h1 : n ≤ 1000000000000) (r : List UInt8) (hr : ∀ c, r.head? = some c → isDigit c = false) : numP (Lib.itoa n ++ r) = .ok (n, (Lib.itoa n).length) := by
  by_cases hn : n < 0
  · have hi : Lib.itoa n = 45 :: Lib.decDigits n.natAbs := by unfold Lib.itoa; rw [if_pos hn]
    rw [hi]
    unfold numP
    have hrun := run_all isDigit (Lib.decDigits n.natAbs) r (dec_digits _) hr
    have htk : ((45 :: Lib.decDigits n.natAbs ++ r).drop 1).take (runP isDigit ((45 :: Lib.decDigits n.natAbs ++ r).drop 1)) = Lib.decDigits n.natAbs := by
      rw [List.cons_append, List.drop_one, List.tail_cons, hrun, List.take_left]
    have hp : Lib.parseIntB 64 (45 :: Lib.decDigits n.natAbs) = .ok n := by
      rw [Lib.parseIntB_minus, Lib.parseUintB, if_neg (dec_ne _), uintM_dec _ (by decide) _ (by omega)]
      simp only [Lib.signedC]
      rw [if_neg (by omega)]
      congr 1; omega
    dsimp only
    rw [show (45 :: Lib.decDigits n.natAbs ++ r).head? = some 45 from rfl, if_pos rfl, htk]
    rw [if_neg (by
      rintro (h | h)
      · exact dec_ne _ h
      · have := dec_head _ h.1; omega)]
    rw [show (45 :: Lib.decDigits n.natAbs ++ r).take (1 + (Lib.decDigits n.natAbs).length) = 45 :: Lib.decDigits n.natAbs by
      rw [List.cons_append, Nat.add_comm, List.take_succ_cons, List.take_left]]
    rw [hp]
    simp only
    rw [if_neg (by omega), List.length_cons, Nat.add_comm]
  · have hi : Lib.itoa n = Lib.decDigits n.toNat := by unfold Lib.itoa; rw [if_neg hn]
    rw [hi]
    unfold numP
    have hrun := run_all isDigit (Lib.decDigits n.toNat) r (dec_digits _) hr
    have hne := dec_ne n.toNat
    have hd0 := dec_digits n.toNat
    have hh := dec_head n.toNat
    have hlen := Lib.decDigits_length n.toNat
    have hp : Lib.parseIntB 64 (Lib.decDigits n.toNat) = .ok n := by
      have hu := uintM_dec (2 ^ 64 - 1) (by decide) n.toNat (by omega)
      cases hc : Lib.decDigits n.toNat with
      | nil => exact absurd hc hne
      | cons c q =>
        have hcd := hd0 c (by rw [hc]; exact List.mem_cons_self ..)
        simp only [isDigit, Bool.and_eq_true, decide_eq_true_eq] at hcd
        rw [hc] at hu
        rw [Lib.parseIntB_plain 64 c q (by omega) (by omega), Lib.parseUintB, if_neg (by simp), hu]
        simp only [Lib.signlessC]
        rw [if_neg (by omega)]
        congr 1; omega
    have hhd : ¬ (Lib.decDigits n.toNat ++ r).head? = some 45 := by
      rw [head_app hne]
      intro e
      have := hd0 45 (List.mem_of_head? e)
      simp [isDigit] at this
    dsimp only
    rw [if_neg hhd, List.drop_zero, hrun, List.take_left, if_neg (by
      rintro (h | h)
      · exact hne h
      · have h0 := hh h.1
        rw [h0] at hlen
        rw [Lib.nDigits_small (by omega)] at hlen
        rw [h0] at h
        omega), Nat.zero_add, List.take_left, hp]
    simp only
    rw [if_neg (by omega)]
end Go.Proofs.YtgpgmmkkmoecmaaGreatDoor

/- The tokens of a printed instance. -/
namespace Go.Proofs.YtgpgmmkkmoecmaaGreatDoor

/-- A token without its place. -/
def er (t : Tok) : Tok := { t with at_ := 0 }
def nT (n : Int) : Tok := ⟨2, [], n, 0⟩
def wT (s : List UInt8) : Tok := ⟨1, s, 0, 0⟩
def sT (c : UInt8) : Tok := ⟨3, [c], 0, 0⟩
def eT : Tok := ⟨4, [], 0, 0⟩
/-- A text's tokens, wherever it stands. -/
def Scan (l : List UInt8) (us : List Tok) : Prop := ∀ a, ∃ ts, scanQ a l = .ok ts ∧ ts.map er = us
/-- Behind it no word and no number goes on. -/
def Brk (r : List UInt8) : Prop := ∀ c, r.head? = some c → isDigit c = false ∧ isLetter c = false
theorem Scan.nil : Scan [] [eT] := fun a => ⟨_, scanQ_nil a, rfl⟩
theorem Brk.nil : Brk [] := fun c h => by simp at h
theorem Brk.cons {c : UInt8} {r : List UInt8} (h : isDigit c = false ∧ isLetter c = false) : Brk (c :: r) := fun d hd => by injection hd with hd; rw [← hd]; exact h
theorem Scan.blank {c : UInt8} {r : List UInt8} {us : List Tok} (hc : c.toNat = 32 ∨ c.toNat = 9 ∨ c.toNat = 10) (h : Scan r us) : Scan (c :: r) us := by
  intro a
  have hl : leftP (c :: r) = 1 := by rw [leftP, if_pos hc]
  rw [scanQ_left a (c :: r) (by simp) (by omega), hl]
  exact h (a + 1)
theorem Scan.tok {l r : List UInt8} {us : List Tok} {t : Tok} {k : Nat} (hl : l ≠ []) (h0 : leftP l = 0) (ht : tokenP l = .ok (t, k)) (hd : l.drop k = r) (h : Scan r us) : Scan l (er t :: us) := by
  intro a
  obtain ⟨ts, h1, h2⟩ := h (a + k)
  refine ⟨{ t with at_ := a } :: ts, ?_, ?_⟩
  · rw [scanQ_tok a l hl (by omega) ht, hd, h1]
  · rw [List.map_cons, h2]; rfl
theorem Scan.sign {c : UInt8} {r : List UInt8} {us : List Tok} (hc : c.toNat = 58 ∨ c.toNat = 44 ∨ c.toNat = 59) (h : Scan r us) : Scan (c :: r) (sT c :: us) := by
  refine Scan.tok (t := ⟨3, [c], 0, 0⟩) (k := 1) (by simp) ?_ ?_ rfl h
  · rw [leftP, if_neg (by omega), if_neg (by omega)]
  · rw [tokenP, if_pos hc]
theorem Scan.word {w r : List UInt8} {us : List Tok} (hw : w ≠ []) (hl : ∀ c ∈ w, isLetter c = true) (hr : Brk r) (h : Scan r us) : Scan (w ++ r) (wT w :: us) := by
  have hrun := run_all isLetter w r hl (fun c hc => (hr c hc).2)
  cases w with
  | nil => exact absurd rfl hw
  | cons c q =>
    have hc := hl c (List.mem_cons_self ..)
    have hc' := hc
    simp only [isLetter, Bool.and_eq_true, decide_eq_true_eq] at hc'
    refine Scan.tok (t := ⟨1, c :: q, 0, 0⟩) (k := (c :: q).length) (by simp) ?_ ?_ (by rw [List.drop_left]) h
    · rw [List.cons_append, leftP, if_neg (by omega), if_neg (by omega)]
    · rw [List.cons_append] at hrun ⊢
      rw [tokenP, if_neg (by omega), if_pos hc, hrun, ← List.cons_append, List.take_left]
theorem itoa_head (n : Int) : ∃ c q, Lib.itoa n = c :: q ∧ (isDigit c = true ∨ c.toNat = 45) := by
  unfold Lib.itoa
  split
  · exact ⟨45, _, rfl, .inr rfl⟩
  · cases hd : Lib.decDigits n.toNat with
    | nil => exact absurd hd (dec_ne _)
    | cons c q => exact ⟨c, q, rfl, .inl (dec_digits n.toNat c (by rw [hd]; exact List.mem_cons_self ..))⟩
theorem Scan.num {n : Int} {r : List UInt8} {us : List Tok} (hn : Fit n) (hr : Brk r) (h : Scan r us) : Scan (Lib.itoa n ++ r) (nT n :: us) := by
  have hp := numP_itoa n hn.1 hn.2 r (fun c hc => (hr c hc).1)
  obtain ⟨c, q, hq, hc⟩ := itoa_head n
  have hb : 48 ≤ c.toNat ∧ c.toNat ≤ 57 ∨ c.toNat = 45 := by
    rcases hc with hc | hc
    · simp only [isDigit, Bool.and_eq_true, decide_eq_true_eq] at hc; exact .inl hc
    · exact .inr hc
  refine Scan.tok (t := ⟨2, [], n, 0⟩) (k := (Lib.itoa n).length) (by rw [hq]; simp) ?_ ?_ (by rw [List.drop_left]) h
  · rw [hq, List.cons_append, leftP, if_neg (by omega), if_neg (by omega)]
  · rw [hq, List.cons_append] at hp ⊢
    rw [tokenP, if_neg (by omega), if_neg (by simp [isLetter]; omega), if_pos hc, hp]
theorem Scan.nums : ∀ {l : List Int} {r : List UInt8} {us : List Tok}, Fits l → Brk r → Scan r us → Scan (numsP l ++ r) (l.map nT ++ us) ∧ Brk (numsP l ++ r)
  | [], r, us, _, hr, h => ⟨h, hr⟩
  | n :: l, r, us, hf, hr, h => by
    have ih := Scan.nums (l := l) (fun k hk => hf (k + 1) (by simp; omega)) hr h
    have e : numsP (n :: l) ++ r = 32 :: (Lib.itoa n ++ (numsP l ++ r)) := by simp [numsP]
    rw [e]
    exact ⟨Scan.blank (by decide) (Scan.num (hf 0 (by simp)) ih.2 ih.1), Brk.cons (by decide)⟩

/-- The tokens of rows, behind the first with a comma ahead. -/
def rowsK : Nat → List (List Int) → List Tok
  | _, [] => []
  | i, t :: r => (if 0 < i then [sT 44] else []) ++ t.map nT ++ rowsK (i + 1) r
def linK : Nat → List Int → List Int → List Tok
  | i, a :: aa, v :: vs => (if 0 < i then [sT 44] else []) ++ [nT a, nT v] ++ linK (i + 1) aa vs
  | _, _, _ => []
def hardK (c : Con) : List Tok :=
  wT (nth [] wordsT c.kind.toNat) ::
    if c.kind = 6 then linK 0 c.args c.scope ++ [sT 58, wT (nth [] howsT (nth 0 c.args c.scope.length).toNat), nT (nth 0 c.args (c.scope.length + 1))]
    else c.scope.map nT ++ if 2 < c.kind then [] else [sT 58] ++ rowsK 0 c.rows
def costsK : List (List Int) → List Int → List Tok
  | t :: r, c :: cs => [sT 44] ++ t.map nT ++ [nT c] ++ costsK r cs
  | _, _ => []
def softK (s : Sft) : List Tok := wT softT :: (s.scope.map nT ++ [sT 58, nT s.dflt] ++ costsK s.rows s.costs)
def domK (d : List Int) : List Tok := wT varT :: d.map nT

theorem Scan.rows : ∀ {l : List (List Int)} {i : Nat} {r : List UInt8} {us : List Tok}, (∀ t ∈ l, Fits t) → Brk r → Scan r us → Scan (rowsP i l ++ r) (rowsK i l ++ us) ∧ Brk (rowsP i l ++ r)
  | [], i, r, us, _, hr, h => ⟨h, hr⟩
  | t :: l, i, r, us, hf, hr, h => by
    have ih := Scan.rows (l := l) (i := i + 1) (fun t ht => hf t (List.mem_cons_of_mem _ ht)) hr h
    have h1 := Scan.nums (hf t (List.mem_cons_self ..)) ih.2 ih.1
    rw [rowsP, rowsK, commaP]
    simp only [List.append_assoc]
    split
    · exact ⟨Scan.sign (by decide) h1.1, Brk.cons (by decide)⟩
    · exact h1
theorem Scan.lin : ∀ {aa vs : List Int} {i : Nat} {r : List UInt8} {us : List Tok}, Fits aa → Fits vs → Brk r → Scan r us → Scan (linP i aa vs ++ r) (linK i aa vs ++ us) ∧ Brk (linP i aa vs ++ r)
  | [], vs, i, r, us, _, _, hr, h => by simp only [linP, linK]; exact ⟨h, hr⟩
  | a :: aa, [], i, r, us, _, _, hr, h => by simp only [linP, linK]; exact ⟨h, hr⟩
  | a :: aa, v :: vs, i, r, us, hf, hg, hr, h => by
    have ih := Scan.lin (aa := aa) (vs := vs) (i := i + 1) (fun k hk => hf (k + 1) (by simp; omega)) (fun k hk => hg (k + 1) (by simp; omega)) hr h
    have h1 := Scan.nums (l := [a, v]) (fun k hk => by
      match k, hk with
      | 0, _ => exact hf 0 (by simp)
      | 1, _ => exact hg 0 (by simp)) ih.2 ih.1
    rw [linP, linK, commaP]
    simp only [List.append_assoc]
    split
    · exact ⟨Scan.sign (by decide) h1.1, Brk.cons (by decide)⟩
    · exact h1
theorem Scan.costs : ∀ {l : List (List Int)} {cs : List Int} {r : List UInt8} {us : List Tok}, (∀ t ∈ l, Fits t) → Fits cs → Brk r → Scan r us → Scan (costsP l cs ++ r) (costsK l cs ++ us) ∧ Brk (costsP l cs ++ r)
  | [], cs, r, us, _, _, hr, h => by simp only [costsP, costsK]; exact ⟨h, hr⟩
  | t :: l, [], r, us, _, _, hr, h => by simp only [costsP, costsK]; exact ⟨h, hr⟩
  | t :: l, c :: cs, r, us, hf, hg, hr, h => by
    have ih := Scan.costs (l := l) (cs := cs) (fun t ht => hf t (List.mem_cons_of_mem _ ht)) (fun k hk => hg (k + 1) (by simp; omega)) hr h
    have h1 := Scan.nums (l := [c]) (fun k hk => by
      have : k = 0 := by simpa using hk
      subst this; exact hg 0 (by simp)) ih.2 ih.1
    have h2 := Scan.nums (hf t (List.mem_cons_self ..)) h1.2 h1.1
    rw [costsP, costsK]
    simp only [List.append_assoc]
    exact ⟨Scan.sign (by decide) h2.1, Brk.cons (by decide)⟩
end Go.Proofs.YtgpgmmkkmoecmaaGreatDoor

/- The parser, at the tokens of what is right: it tells that. -/
namespace Go.Proofs.YtgpgmmkkmoecmaaGreatDoor

theorem er_num {t : Tok} {n : Int} (h : er t = nT n) : t.kind = 2 ∧ t.n = n := by
  simp only [er, nT, Tok.mk.injEq] at h
  exact ⟨h.1, h.2.2.1⟩
theorem er_word {t : Tok} {s : List UInt8} (h : er t = wT s) : t.kind = 1 ∧ t.text = s := by
  simp only [er, wT, Tok.mk.injEq] at h
  exact ⟨h.1, h.2.1⟩
theorem er_sign {t : Tok} {c : UInt8} (h : er t = sT c) : t.kind = 3 ∧ t.text = [c] := by
  simp only [er, sT, Tok.mk.injEq] at h
  exact ⟨h.1, h.2.1⟩
theorem er_end {t : Tok} (h : er t = eT) : t.kind = 4 := by
  simp only [er, eT, Tok.mk.injEq] at h
  exact h.1
theorem isP_sign {t : Tok} {c : UInt8} (h : er t = sT c) : isP t [c] = true := by
  obtain ⟨h1, h2⟩ := er_sign h
  simp [isP, h1, h2]
theorem isP_other {t : Tok} {c d : UInt8} (h : er t = sT c) (hd : c ≠ d) : isP t [d] = false := by
  obtain ⟨h1, h2⟩ := er_sign h
  simp [isP, h1, h2, hd]
theorem numberQ_c {t : Tok} {n m : Int} {r : List Tok} (h : er t = nT n) (hs : smallB n m = true) : numberQ m (t :: r) = .ok (t, r) := by
  obtain ⟨h1, h2⟩ := er_num h
  simp [numberQ, h1, h2, hs]
theorem signQ_c {t : Tok} {c : UInt8} {r : List Tok} (h : er t = sT c) : signQ [c] (t :: r) = .ok ((), r) := by
  simp [signQ, isP_sign h]
theorem map_cons_er {c : List Tok} {u : Tok} {us : List Tok} (h : c.map er = u :: us) : ∃ t c', c = t :: c' ∧ er t = u ∧ c'.map er = us := by
  cases c with
  | nil => cases h
  | cons t c' => rw [List.map_cons] at h; injection h with h1 h2; exact ⟨t, c', rfl, h1, h2⟩
theorem map_app_er {c : List Tok} {us vs : List Tok} (h : c.map er = us ++ vs) : ∃ a b, c = a ++ b ∧ a.map er = us ∧ b.map er = vs := by
  obtain ⟨a, b, rfl, h1, h2⟩ := List.map_eq_append_iff.1 h
  exact ⟨a, b, rfl, h1, h2⟩
theorem map_nil_er {c : List Tok} (h : c.map er = []) : c = [] := List.map_eq_nil_iff.1 h
def Small6 (l : List Int) : Prop := ∀ n ∈ l, smallB n 1000000 = true
theorem valsQ_c (doms : List (List Int)) : ∀ (scope v : List Int) (c r : List Tok), c.map er = v.map nT → v.length = scope.length → inDoms doms scope v = true → Small6 v → valsQ doms scope (c ++ r) = .ok (v, r)
  | [], [], c, r, h, _, _, _ => by
    obtain rfl := map_nil_er h
    rfl
  | s :: ss, n :: v, c, r, h, hl, hi, hs => by
    obtain ⟨t, c', rfl, ht, hc⟩ := map_cons_er h
    simp only [inDoms, Bool.and_eq_true, decide_eq_true_eq] at hi
    rw [List.cons_append, valsQ, numberQ_c ht (hs n (List.mem_cons_self ..))]
    simp only [(er_num ht).2]
    rw [if_pos hi.1, valsQ_c doms ss v c' r hc (by simpa using hl) hi.2 (fun m hm => hs m (List.mem_cons_of_mem _ hm))]
/-- The last row, if there is one. -/
def lastO (l : List (List Int)) : Option (List Int) := if l.length = 0 then none else some (nth [] l (l.length - 1))
theorem lastO_snoc (l : List (List Int)) (t : List Int) : lastO (l ++ [t]) = some t := by
  simp [lastO, nth, List.getD_eq_getElem?_getD]
theorem rowQ_c {doms : List (List Int)} {scope v : List Int} {ahead : List (List Int)} {c r : List Tok} (h : c.map er = v.map nT) (hl : v.length = scope.length) (hi : inDoms doms scope v = true) (hs : Small6 v)
    (ha : (match lastO ahead with | none => true | some p => decide (cmpL p v < 0)) = true) : rowQ doms scope ahead (c ++ r) = .ok (ahead ++ [v], r) := by
  rw [rowQ, valsQ_c doms scope v c r h hl hi hs]
  simp only
  rw [if_pos]
  unfold lastO at ha
  split at ha
  · rename_i h0
    by_cases hz : ahead.length = 0
    · exact .inl hz
    · rw [if_neg hz] at h0; cases h0
  · rename_i p h0
    by_cases hz : ahead.length = 0
    · exact .inl hz
    · rw [if_neg hz] at h0
      injection h0 with h0
      subst h0
      exact .inr (of_decide_eq_true ha)
/-- No comma ahead. -/
def NoComma (r : List Tok) : Prop := ∃ t r', r = t :: r' ∧ isP t [44] = false
theorem isQ_no {r : List Tok} (h : NoComma r) : isQ [44] r = (false, r) := by
  obtain ⟨t, r', rfl, h⟩ := h
  simp [isQ, h]
theorem isQ_yes {t : Tok} {c : UInt8} {r : List Tok} (h : er t = sT c) : isQ [c] (t :: r) = (true, r) := by simp [isQ, isP_sign h]
theorem rowsK_pos : ∀ (l : List (List Int)) (i j : Nat), 0 < i → 0 < j → rowsK i l = rowsK j l
  | [], _, _, _, _ => rfl
  | t :: l, i, j, hi, hj => by rw [rowsK, rowsK, if_pos hi, if_pos hj, rowsK_pos l (i + 1) (j + 1) (by omega) (by omega)]
theorem rowsB_cons (doms : List (List Int)) (scope : List Int) (o : Option (List Int)) (t : List Int) (r : List (List Int)) : rowsB doms scope o (t :: r) = (decide (t.length = scope.length) && (match o with | none => true | some p => decide (cmpL p t < 0)) && inDoms doms scope t && rowsB doms scope (some t) r) := rfl
theorem rowsQ_c (doms : List (List Int)) (scope : List Int) : ∀ (rest : List (List Int)) (v : List Int) (n : Nat) (ahead : List (List Int)) (c r : List Tok), c.map er = v.map nT ++ rowsK 1 rest → rowsB doms scope (lastO ahead) (v :: rest) = true → (∀ t ∈ v :: rest, Small6 t) → rest.length < n → NoComma r →
    rowsQ doms scope n ahead (c ++ r) = .ok (ahead ++ v :: rest, r)
  | rest, v, 0, ahead, c, r, _, _, _, hn, _ => by omega
  | [], v, n + 1, ahead, c, r, h, hb, hs, hn, hr => by
    simp only [rowsK, List.append_nil] at h
    simp only [rowsB, Bool.and_eq_true, decide_eq_true_eq] at hb
    rw [rowsQ, rowQ_c h hb.1.1.1 hb.1.2 (hs v (List.mem_cons_self ..)) hb.1.1.2]
    simp only [isQ_no hr]
    rfl
  | w :: rest, v, n + 1, ahead, c, r, h, hb, hs, hn, hr => by
    rw [rowsK, if_pos (by omega)] at h
    obtain ⟨a, b, rfl, ha, hb2⟩ := map_app_er h
    rw [List.append_assoc, List.singleton_append] at hb2
    obtain ⟨t, b', rfl, ht, hb3⟩ := map_cons_er hb2
    rw [rowsB_cons] at hb
    simp only [Bool.and_eq_true, decide_eq_true_eq] at hb
    rw [rowsQ, List.append_assoc, rowQ_c ha hb.1.1.1 hb.1.2 (hs v (List.mem_cons_self ..)) hb.1.1.2]
    simp only [List.cons_append, isQ_yes ht]
    rw [rowsK_pos rest (1 + 1) 1 (by omega) (by omega)] at hb3
    have := rowsQ_c doms scope rest w n (ahead ++ [v]) b' r hb3 (by rw [lastO_snoc]; exact hb.2) (fun t ht => hs t (List.mem_cons_of_mem _ ht)) (by simp at hn; omega) hr
    simp only [List.append_assoc, List.singleton_append] at this
    exact this
theorem tableQ_c {doms : List (List Int)} {scope : List Int} {rows : List (List Int)} {c r : List Tok} {t : Tok} (h : c.map er = sT 58 :: rowsK 0 rows) (hb : rowsB doms scope none rows = true) (hs : ∀ t ∈ rows, Small6 t) (ht : er t = sT 59) (h0 : 0 < scope.length) :
    tableQ doms scope (c ++ t :: r) = .ok (rows, t :: r) := by
  obtain ⟨u, c', rfl, hu, hc⟩ := map_cons_er h
  rw [List.cons_append, tableQ, signQ_c hu]
  simp only
  cases rows with
  | nil =>
    obtain rfl := map_nil_er hc
    have := er_sign ht
    rw [if_pos (by simpa [nth] using this)]
    rfl
  | cons v rest =>
    rw [rowsK, if_neg (by omega), List.nil_append] at hc
    have hv : v.length = scope.length := by
      rw [rowsB] at hb
      simp only [Bool.and_eq_true, decide_eq_true_eq] at hb
      exact hb.1.1.1
    rw [if_neg]
    · refine rowsQ_c doms scope rest v _ [] c' (t :: r) hc hb hs ?_ ⟨t, r, rfl, isP_other ht (by decide)⟩
      have hl : (c'.map er).length = (v.map nT ++ rowsK 1 rest).length := by rw [hc]
      have hrl : ∀ (l : List (List Int)) (i : Nat), 0 < i → l.length ≤ (rowsK i l).length := by
        intro l
        induction l with
        | nil => intro i _; simp
        | cons a l ih => intro i hi; have := ih (i + 1) (by omega); rw [rowsK, if_pos hi]; simp; omega
      have := hrl rest 1 (by omega)
      simp at hl ⊢
      omega
    · cases v with
      | nil => simp at hv; omega
      | cons n v =>
        obtain ⟨q, c2, rfl, hq, _⟩ := map_cons_er hc
        have := er_num hq
        simp [nth, this.1]

/-! ### Scopes, domains -/
theorem nth_len {α : Type} (z : α) (a : List α) (n : α) (l : List α) : nth z (a ++ n :: l) a.length = n := by simp [nth, List.getD_eq_getElem?_getD]
theorem nth_left {α : Type} (z : α) (a l : List α) (k : Nat) (h : k < a.length) : nth z (a ++ l) k = nth z a k := by simp [nth, List.getD_eq_getElem?_getD, List.getElem?_append_left h]
theorem last_lt {a l : List Int} {n : Int} (h : risingB (a ++ n :: l) = true) (ha : a.length ≠ 0) : lastI a < n := by
  have := rising_step h (a.length - 1) (by simp; omega)
  rw [show a.length - 1 + 1 = a.length by omega, nth_len, nth_left _ _ _ _ (by omega)] at this
  exact this
/-- Variables that may be a scope, among so many. -/
def ScopeOk (nd : Nat) (l : List Int) : Prop := l.length ≤ 6 ∧ risingB l = true ∧ ∀ v ∈ l, 0 ≤ v ∧ v < nd
theorem varQ_c {nd : Nat} {l q : List Int} {n : Int} {t : Tok} {r : List Tok} (h : er t = nT n) (hk : ScopeOk nd (l ++ n :: q)) (hnd : nd ≤ 40) : varQ nd l (t :: r) = .ok (l ++ [n], r) := by
  obtain ⟨h1, h2, h3⟩ := hk
  have hn := h3 n (by simp)
  rw [varQ, numberQ_c h (by simp [smallB]; omega)]
  simp only [(er_num h).2]
  rw [if_neg (by simp at h1; omega), if_pos]
  refine ⟨hn.1, hn.2, ?_⟩
  by_cases h0 : l.length = 0
  · exact .inl h0
  · exact .inr (last_lt h2 h0)
/-- No number ahead. -/
def NoNum (r : List Tok) : Prop := ∃ t r', r = t :: r' ∧ t.kind ≠ 2
theorem scopeQ_c (nd : Nat) (hnd : nd ≤ 40) : ∀ (l acc : List Int) (c r : List Tok), c.map er = l.map nT → ScopeOk nd (acc ++ l) → acc ++ l ≠ [] → NoNum r → scopeQ nd (c ++ r) acc = .ok (acc ++ l, r)
  | [], acc, c, r, h, hk, h0, hr => by
    obtain rfl := map_nil_er h
    obtain ⟨t, r', rfl, ht⟩ := hr
    rw [List.nil_append, scopeQ, if_pos ⟨by intro e; apply h0; rw [List.eq_nil_of_length_eq_zero e]; rfl, ht⟩, List.append_nil]
  | n :: l, acc, c, r, h, hk, h0, hr => by
    obtain ⟨t, c', rfl, ht, hc⟩ := map_cons_er h
    have hn := er_num ht
    rw [List.cons_append, scopeQ_ok (.inr hn.1) (varQ_c ht hk hnd)]
    have := scopeQ_c nd hnd l (acc ++ [n]) c' r hc (by simpa using hk) (by simp) hr
    simpa using this
theorem domQ_c : ∀ (l acc : List Int) (c r : List Tok), c.map er = l.map nT → (acc ++ l).length ≤ 16 → risingB (acc ++ l) = true → Small6 l → acc ++ l ≠ [] → NoNum r → domQ (c ++ r) acc = .ok (acc ++ l, r)
  | [], acc, c, r, h, _, _, _, h0, hr => by
    obtain rfl := map_nil_er h
    obtain ⟨t, r', rfl, ht⟩ := hr
    rw [List.nil_append, domQ, if_pos ⟨by intro e; apply h0; rw [List.eq_nil_of_length_eq_zero e]; rfl, ht⟩, List.append_nil]
  | n :: l, acc, c, r, h, hl, hri, hs, h0, hr => by
    obtain ⟨t, c', rfl, ht, hc⟩ := map_cons_er h
    have hn := er_num ht
    rw [List.cons_append, domQ, if_neg (by rintro ⟨_, hk⟩; exact hk hn.1), numberQ_c ht (hs n (List.mem_cons_self ..))]
    simp only [hn.2]
    rw [if_neg (by simp at hl; omega), if_neg (by rintro ⟨ha, hb⟩; have := last_lt hri ha; omega)]
    have := domQ_c l (acc ++ [n]) c' r hc (by simpa using hl) (by simpa using hri) (fun m hm => hs m (List.mem_cons_of_mem _ hm)) (by simp) hr
    simpa using this

/-! ### Linear constraints -/
theorem linK_pos : ∀ (a v : List Int) (i j : Nat), 0 < i → 0 < j → linK i a v = linK j a v
  | [], _, _, _, _, _ => by simp only [linK]
  | _ :: _, [], _, _, _, _ => by simp only [linK]
  | a :: aa, v :: vs, i, j, hi, hj => by rw [linK, linK, if_pos hi, if_pos hj, linK_pos aa vs (i + 1) (j + 1) (by omega) (by omega)]
theorem termsQ_c (nd : Nat) (hnd : nd ≤ 40) : ∀ (aa vs : List Int) (a v : Int) (n : Nat) (args scope : List Int) (c r : List Tok), c.map er = [nT a, nT v] ++ linK 1 aa vs → aa.length = vs.length → (∀ b ∈ a :: aa, b ≠ 0 ∧ smallB b 1000000 = true) → ScopeOk nd (scope ++ v :: vs) → vs.length < n → NoComma r →
    termsQ nd n args scope (c ++ r) = .ok ((args ++ a :: aa, scope ++ v :: vs), r)
  | aa, vs, a, v, 0, args, scope, c, r, _, _, _, _, hn, _ => by omega
  | [], w :: vs, a, v, n + 1, args, scope, c, r, _, hl, _, _, _, _ => by simp at hl
  | b :: aa, [], a, v, n + 1, args, scope, c, r, _, hl, _, _, _, _ => by simp at hl
  | [], [], a, v, n + 1, args, scope, c, r, h, _, hb, hk, _, hr => by
    simp only [linK, List.append_nil] at h
    obtain ⟨t, c1, rfl, ht, h⟩ := map_cons_er h
    obtain ⟨u, c2, rfl, hu, h⟩ := map_cons_er h
    obtain rfl := map_nil_er h
    have ha := hb a (List.mem_cons_self ..)
    have hn := er_num ht
    rw [List.cons_append, List.cons_append, List.nil_append, termsQ, numberQ_c ht ha.2]
    simp only [hn.2]
    rw [if_neg ha.1, varQ_c (q := []) hu (by simpa using hk) hnd]
    simp only [isQ_no hr]
    rfl
  | b :: aa, w :: vs, a, v, n + 1, args, scope, c, r, h, hl, hb, hk, hn', hr => by
    rw [linK, if_pos (by omega)] at h
    simp only [List.cons_append, List.nil_append] at h
    obtain ⟨t, c1, rfl, ht, h⟩ := map_cons_er h
    obtain ⟨u, c2, rfl, hu, h⟩ := map_cons_er h
    obtain ⟨k, c3, rfl, hkc, h⟩ := map_cons_er h
    rw [linK_pos aa vs (1 + 1) 1 (by omega) (by omega)] at h
    have ha := hb a (List.mem_cons_self ..)
    have hn := er_num ht
    rw [List.cons_append, List.cons_append, List.cons_append, termsQ, numberQ_c ht ha.2]
    simp only [hn.2]
    rw [if_neg ha.1, varQ_c (q := w :: vs) hu hk hnd]
    simp only [isQ_yes hkc]
    have := termsQ_c nd hnd aa vs b w n (args ++ [a]) (scope ++ [v]) c3 r h (by simpa using hl) (fun m hm => hb m (List.mem_cons_of_mem _ hm)) (by simpa using hk) (by simp at hn'; omega) hr
    simpa using this

/-! ### Statements -/
theorem how_at (k : Int) (h0 : 0 ≤ k) (h2 : k ≤ 2) : wordFrom (nth [] howsT k.toNat) 0 howsT = k := by
  have : k = 0 ∨ k = 1 ∨ k = 2 := by omega
  rcases this with rfl | rfl | rfl <;> rfl
theorem word_at (k : Int) (h0 : 1 ≤ k) (h2 : k ≤ 6) : wordFrom (nth [] wordsT k.toNat) 0 wordsT = k ∧ nth [] wordsT k.toNat ≠ varT ∧ nth [] wordsT k.toNat ≠ softT := by
  have : k = 1 ∨ k = 2 ∨ k = 3 ∨ k = 4 ∨ k = 5 ∨ k = 6 := by omega
  rcases this with rfl | rfl | rfl | rfl | rfl | rfl <;> exact ⟨rfl, by decide, by decide⟩
theorem scope_ok {n : Nat} {l : List Int} (h : scopeB n l = true) : ScopeOk n l ∧ l ≠ [] := by
  have h1 := scopeB_range h
  simp only [scopeB, Bool.and_eq_true, decide_eq_true_eq] at h
  refine ⟨⟨h.1.1.1.2, h.1.1.2, fun v hv => ?_⟩, fun e => by rw [e] at h; simp at h⟩
  obtain ⟨k, hk, rfl⟩ := mem_nth 0 hv
  exact h1 k hk
/-- Domains that may be, each number small. -/
def DomsOk (doms : List (List Int)) : Prop := doms.length ≤ 40 ∧ ∀ d ∈ doms, domainB d = true
theorem small_of_fit6 {n : Int} (h : Fit6 n) : smallB n 1000000 = true := by simp [smallB]; exact ⟨h.1, h.2⟩
theorem doms_fit {doms : List (List Int)} (h : DomsOk doms) : ∀ i, i < doms.length → ∀ k, k < (nth [] doms i).length → Fit6 (nth 0 (nth [] doms i) k) :=
  fun _ hi => domainB_fits (h.2 _ (nth_mem [] hi))
theorem rows_small {doms : List (List Int)} {scope : List Int} {rows : List (List Int)} {o : Option (List Int)} (hd : DomsOk doms) (hs : scopeB doms.length scope = true) (h : rowsB doms scope o rows = true) : ∀ t ∈ rows, Small6 t := by
  intro t ht n hn
  obtain ⟨i, hi, rfl⟩ := mem_nth [] ht
  obtain ⟨k, hk, rfl⟩ := mem_nth 0 hn
  exact small_of_fit6 ((rowsB_fits (doms_fit hd) (scopeB_range hs) rows o h i hi).2 k hk)
theorem args_at (n : Nat) : ∀ (l : List Int) (i : Nat), argsB n i l = true → ∀ k, k < l.length → (i + k < n → nth 0 l k ≠ 0) ∧ smallB (nth 0 l k) 1000000 = true
  | [], i, _, k, hk => by simp at hk
  | a :: l, i, h, k, hk => by
    simp only [argsB, Bool.and_eq_true, Bool.not_eq_true', Bool.and_eq_false_iff, decide_eq_false_iff_not] at h
    cases k with
    | zero => exact ⟨fun hi e => by rcases h.1.1 with h1 | h1; exact h1 hi; exact h1 e, h.1.2⟩
    | succ k =>
      have := args_at n l (i + 1) h.2 k (by simpa using hk)
      exact ⟨fun hi => this.1 (by omega), this.2⟩
theorem linK_take : ∀ (aa vs : List Int) (i : Nat), linK i (aa.take vs.length) vs = linK i aa vs
  | [], vs, i => by simp
  | a :: aa, [], i => by simp [linK]
  | a :: aa, v :: vs, i => by simp only [List.length_cons, List.take_succ_cons, linK, linK_take aa vs (i + 1)]
end Go.Proofs.YtgpgmmkkmoecmaaGreatDoor

/- arboristref06.hard, soft, Right. -/
namespace Go.Proofs.YtgpgmmkkmoecmaaGreatDoor
open Go.RowKit
attribute [local irreducible] wpStill wpLex Calls

set_option maxRecDepth 100000 in
set_option maxHeartbeats 8000000 in
theorem refhard_any (vD vH vS vs vr va : Value) (x : Ins) (c : Con) (ok : Nat → Prop) (w : World) (hD : Sl kRow w ok vD x.doms) (h1 : Sl (Kd.int .i64) w ok vs c.scope) (h2 : Sl kRow w ok vr c.rows) (h3 : Sl (Kd.int .i64) w ok va c.args) :
    Calls Tryz.prog 18 #[.agg #[vD, vH, vS], .agg #[.int .i64 c.kind, vs, vr, va]] w fun e w' => e = .returned (.bool (hardB x c)) ∧ Below w.heap.size w w' := by
  obtain ⟨AD, cD, rfl, hcD, hmD, hAD⟩ := hD
  obtain ⟨As, cs, rfl, hcs, hms, hAs⟩ := h1
  obtain ⟨Ar, cr, rfl, hcr, hmr, hAr⟩ := h2
  obtain ⟨Aa, ca, rfl, hca, hma, hAa⟩ := h3
  have HB := Lib.hid (below_next (below_alloc1 w (.cells #[.slice AD x.doms.length cD, vH, vS] 30)) (below_alloc1 _ (.cells #[.int .i64 c.kind, .slice As c.scope.length cs, .slice Ar c.rows.length cr, .slice Aa c.args.length ca] 34)))
  have HD := Lib.hid (Sl.below (v := .slice AD x.doms.length cD) (xs := x.doms) (by decide) ⟨AD, cD, rfl, hcD, hmD, hAD⟩ HB.out)
  have HS := Lib.hid (Sl.below (v := .slice As c.scope.length cs) (xs := c.scope) (by decide) ⟨As, cs, rfl, hcs, hms, hAs⟩ HB.out)
  have HR := Lib.hid (Sl.below (v := .slice Ar c.rows.length cr) (xs := c.rows) (by decide) ⟨Ar, cr, rfl, hcr, hmr, hAr⟩ HB.out)
  have HA := Lib.hid (Sl.below (v := .slice Aa c.args.length ca) (xs := c.args) (by decide) ⟨Aa, ca, rfl, hca, hma, hAa⟩ HB.out)
  have HX := Lib.hid (block_kept (below_alloc1 _ (.cells #[.int .i64 c.kind, .slice As c.scope.length cs, .slice Ar c.rows.length cr, .slice Aa c.args.length ca] 34)) (heap_alloc_new w (.cells #[.slice AD x.doms.length cD, vH, vS] 30)))
  have hy : ((w.alloc (.cells #[.slice AD x.doms.length cD, vH, vS] 30)).alloc (.cells #[.int .i64 c.kind, .slice As c.scope.length cs, .slice Ar c.rows.length cr, .slice Aa c.args.length ca] 34)).heap[w.heap.size + 1]? = some (.cells #[.int .i64 c.kind, .slice As c.scope.length cs, .slice Ar c.rows.length cr, .slice Aa c.args.length ca] 34) := by
    have := heap_alloc_new (w.alloc (.cells #[.slice AD x.doms.length cD, vH, vS] 30)) (.cells #[.int .i64 c.kind, .slice As c.scope.length cs, .slice Ar c.rows.length cr, .slice Aa c.args.length ca] 34)
    simpa using this
  have HY := Lib.hid hy
  have hsc := Lib.hid (refscope_any (.slice AD x.doms.length cD) vH vS (.slice As c.scope.length cs) x.doms c.scope ok _ HD.out HS.out)
  clear hAD hAs hAr hAa hcD hmD hcs hcr hca hy
  go_enter Tryz.func18, Tryz.ntmps18
  cases hs : scopeB x.doms.length c.scope
  · rw [hs] at hsc
    have hf : hardB x c = false := by simp [hardB, hs]
    have HF := Lib.hid hf
    clear hs hf
    go_wp2_with (go_at_call 47; refine hsc.out.mono ?_; rintro e w2 ⟨rfl, hb⟩; (have HB2 := Lib.hid hb); (have hy := block_kept hb HY.out); (have y0 := cell_at hy (i := 0) rfl); (have y1 := cell_at hy (i := 1) rfl); (have y2 := cell_at hy (i := 2) rfl); (have y3 := cell_at hy (i := 3) rfl); (have hx := block_kept hb HX.out); (have x0 := cell_at hx (i := 0) rfl); (have x1 := cell_at hx (i := 1) rfl); (have x2 := cell_at hx (i := 2) rfl); clear hb hy hx hsc)
    go_ret
    exact ⟨ret_bool HF.out.symm, below_next HB.out HB2.out⟩
  · rw [hs] at hsc
    have HSC := Lib.hid (scopeB_range hs)
    by_cases hg : 1 ≤ c.kind ∧ c.kind ≤ 6 ∧ ¬ (2 < c.kind ∧ 0 < c.rows.length) ∧ ¬ (c.kind ≠ 6 ∧ 0 < c.args.length)
    · obtain ⟨k1, k6, k2, k4⟩ := hg
      by_cases h6 : c.kind = 6
      · have hr0 : c.rows.length = 0 := by
          by_cases h : 0 < c.rows.length
          · exact absurd ⟨by omega, h⟩ k2
          · omega
        have hrn : c.rows = [] := List.eq_nil_of_length_eq_zero hr0
        have hf : hardB x c = linearB c := by simp [hardB, hs, h6, hr0]
        have HF := Lib.hid hf
        have HRN := Lib.hid hrn
        have k6b : (c.kind == 6) = true := by simpa using h6
        have k6c : (c.kind != 6) = false := by simpa using h6
        have k7 : 2 < c.kind := by omega
        have k8 : ¬ 0 < c.rows.length := by omega
        clear hs hf hrn hr0 k2 k4
        by_cases hl : c.args.length = c.scope.length + 2
        · have hlb : ((c.args.length : Int) != c.scope.length + 2) = false := by simp; omega
          obtain ⟨b, o, rfl, a1⟩ := HA.out.elems.num (j := c.scope.length) (by omega)
          obtain ⟨b', o', he, a2⟩ := HA.out.elems.num (j := c.scope.length + 1) (by omega)
          injection he with he
          injection he with he1 he2
          subst he1 he2
          have hl1 : c.scope.length < c.args.length := by omega
          have hl2 : c.scope.length + 1 < c.args.length := by omega
          have HL := Lib.hid hl
          clear hl h6
          by_cases q1 : 0 ≤ nth 0 c.args c.scope.length
          · by_cases q2 : nth 0 c.args c.scope.length ≤ 2
            · cases q3 : smallB (nth 0 c.args (c.scope.length + 1)) 1000000
              · have hf2 : linearB c = false := by
                  cases hh : linearB c
                  · rfl
                  · exfalso
                    simp only [linearB, Bool.and_eq_true] at hh
                    have := (args_at _ _ _ hh.2 (c.scope.length + 1) (by omega)).2
                    rw [q3] at this; cases this
                have HF2 := Lib.hid hf2
                clear hf2
                go_wp2_with (first
                  | (go_at_call 47; refine hsc.out.mono ?_; rintro e w2 ⟨rfl, hb⟩; (have HB2 := Lib.hid hb); (have hy := block_kept hb HY.out); (have y0 := cell_at hy (i := 0) rfl); (have y1 := cell_at hy (i := 1) rfl); (have y2 := cell_at hy (i := 2) rfl); (have y3 := cell_at hy (i := 3) rfl); (have hx := block_kept hb HX.out); (have x0 := cell_at hx (i := 0) rfl); (have x1 := cell_at hx (i := 1) rfl); (have x2 := cell_at hx (i := 2) rfl); (have d1 := cell_kept hb a1); (have d2 := cell_kept hb a2); clear hb hy hx hsc a1 a2)
                  | (go_at_call 17; refine (refsmall_any _ _ _ (by omega) (by omega)).mono ?_; rintro e w' ⟨rfl, rfl⟩))
                go_ret
                exact ⟨ret_bool (by rw [HF.out, HF2.out]), below_next HB.out HB2.out⟩
              · have Q3 := Lib.hid q3
                go_wp2_with (first
                  | (go_at_call 47; refine hsc.out.mono ?_; rintro e w2 ⟨rfl, hb⟩; (have HB2 := Lib.hid hb); (have hy := block_kept hb HY.out); (have y0 := cell_at hy (i := 0) rfl); (have y1 := cell_at hy (i := 1) rfl); (have y2 := cell_at hy (i := 2) rfl); (have y3 := cell_at hy (i := 3) rfl); (have hx := block_kept hb HX.out); (have x0 := cell_at hx (i := 0) rfl); (have x1 := cell_at hx (i := 1) rfl); (have x2 := cell_at hx (i := 2) rfl); (have d1 := cell_kept hb a1); (have d2 := cell_kept hb a2); clear hb hy hx hsc a1 a2)
                  | (go_at_call 17; refine (refsmall_any _ _ _ (by omega) (by omega)).mono ?_; rintro e w' ⟨rfl, rfl⟩))
                clear d1 d2
                go_loop [7] (fun i => ∃ k : Nat, i = .int .i64 k ∧ k ≤ c.scope.length ∧ Hid (argsB c.scope.length 0 c.args = argsB c.scope.length k (c.args.drop k))) (fun i => c.scope.length - (intOf i).toNat)
                case atStart => exact ⟨0, rfl, by omega, Lib.hid rfl⟩
                case round =>
                  obtain ⟨k, rfl, hk, H⟩ := hrel
                  by_cases hkl : k < c.scope.length
                  · obtain ⟨b', o', he, a3⟩ := HA.out.elems.num (j := k) (by omega)
                    injection he with he
                    injection he with he1 he2
                    subst he1 he2
                    have d3 := cell_kept HB2.out a3
                    have hka : k < c.args.length := by omega
                    have H' : Hid (argsB c.scope.length k (c.args.drop k) = (!(decide (k < c.scope.length) && decide (nth 0 c.args k = 0)) && smallB (nth 0 c.args k) 1000000 && argsB c.scope.length (k + 1) (c.args.drop (k + 1)))) := by
                      rw [drop_cons c.args 0 k (by omega), argsB]; exact Lib.hid rfl
                    by_cases hz : nth 0 c.args k = 0
                    · have hzb : (nth 0 c.args k == 0) = true := by simpa using hz
                      have hf3 : linearB c = false := by unfold linearB; rw [H.out, H'.out, hz]; simp [hkl]
                      have HF3 := Lib.hid hf3
                      clear hf3 hz
                      go_wp2_with fail
                      go_ret
                      exact ⟨ret_bool (by rw [HF.out, HF3.out]), below_next HB.out HB2.out⟩
                    · have hzb : (nth 0 c.args k == 0) = false := by simpa using hz
                      have HZ := Lib.hid hz
                      clear hz
                      cases hsm : smallB (nth 0 c.args k) 1000000
                      · have hf3 : linearB c = false := by unfold linearB; rw [H.out, H'.out, hsm]; simp
                        have HF3 := Lib.hid hf3
                        clear hf3
                        go_wp2_with (go_at_call 17; refine (refsmall_any _ _ _ (by omega) (by omega)).mono ?_; rintro e w' ⟨rfl, rfl⟩)
                        go_ret
                        exact ⟨ret_bool (by rw [HF.out, HF3.out]), below_next HB.out HB2.out⟩
                      · go_wp2_with (go_at_call 17; refine (refsmall_any _ _ _ (by omega) (by omega)).mono ?_; rintro e w' ⟨rfl, rfl⟩)
                        go_round
                        case rel => exact ⟨k + 1, by go_num, by omega, Lib.hid (by rw [H.out, H'.out, hsm, decide_eq_false HZ.out]; simp)⟩
                        case measure => simp [intOf]; omega
                  · have hkn : k = c.scope.length := by omega
                    have hs0 : smallB (nth 0 c.args c.scope.length) 1000000 = true := by simp [smallB]; omega
                    have hf3 : linearB c = true := by
                      unfold linearB
                      rw [H.out, hkn, drop_cons c.args 0 c.scope.length (by omega), drop_cons c.args 0 (c.scope.length + 1) (by omega), List.drop_eq_nil_of_le (by have := HL.out; omega)]
                      simp [argsB, HL.out, q1, q2, hs0, Q3.out]
                    have HF3 := Lib.hid hf3
                    clear hf3 hkn hs0
                    have HRR : Hid (rowsB x.doms c.scope none c.rows = true) := Lib.hid (by rw [HRN.out]; rfl)
                    go_wp2_with fail
                    refine (refrows_any (.slice AD x.doms.length cD) vH vS (.slice As c.scope.length cs) (.slice Ar c.rows.length cr) x.doms c.scope c.rows ok w2 (HD.out.below (by decide) HB2.out) (HS.out.below (by decide) HB2.out) (HR.out.below (by decide) HB2.out) HSC.out).mono ?_
                    rintro e w3 ⟨rfl, hb3⟩
                    go_wp2_with fail
                    go_ret
                    exact ⟨ret_bool (by rw [HF.out, HF3.out, HRR.out]), below_next HB.out (below_next HB2.out hb3)⟩
            · have hf2 : linearB c = false := by simp [linearB, q2]
              have HF2 := Lib.hid hf2
              clear hf2
              go_wp2_with (first
                | (go_at_call 47; refine hsc.out.mono ?_; rintro e w2 ⟨rfl, hb⟩; (have HB2 := Lib.hid hb); (have hy := block_kept hb HY.out); (have y0 := cell_at hy (i := 0) rfl); (have y1 := cell_at hy (i := 1) rfl); (have y2 := cell_at hy (i := 2) rfl); (have y3 := cell_at hy (i := 3) rfl); (have hx := block_kept hb HX.out); (have x0 := cell_at hx (i := 0) rfl); (have x1 := cell_at hx (i := 1) rfl); (have x2 := cell_at hx (i := 2) rfl); (have d1 := cell_kept hb a1); (have d2 := cell_kept hb a2); clear hb hy hx hsc a1 a2)
                | (go_at_call 17; refine (refsmall_any _ _ _ (by omega) (by omega)).mono ?_; rintro e w' ⟨rfl, rfl⟩))
              go_ret
              exact ⟨ret_bool (by rw [HF.out, HF2.out]), below_next HB.out HB2.out⟩
          · have hf2 : linearB c = false := by simp [linearB, q1]
            have HF2 := Lib.hid hf2
            clear hf2
            go_wp2_with (first
              | (go_at_call 47; refine hsc.out.mono ?_; rintro e w2 ⟨rfl, hb⟩; (have HB2 := Lib.hid hb); (have hy := block_kept hb HY.out); (have y0 := cell_at hy (i := 0) rfl); (have y1 := cell_at hy (i := 1) rfl); (have y2 := cell_at hy (i := 2) rfl); (have y3 := cell_at hy (i := 3) rfl); (have hx := block_kept hb HX.out); (have x0 := cell_at hx (i := 0) rfl); (have x1 := cell_at hx (i := 1) rfl); (have x2 := cell_at hx (i := 2) rfl); (have d1 := cell_kept hb a1); (have d2 := cell_kept hb a2); clear hb hy hx hsc a1 a2)
              | (go_at_call 17; refine (refsmall_any _ _ _ (by omega) (by omega)).mono ?_; rintro e w' ⟨rfl, rfl⟩))
            go_ret
            exact ⟨ret_bool (by rw [HF.out, HF2.out]), below_next HB.out HB2.out⟩
        · have hlb : ((c.args.length : Int) != c.scope.length + 2) = true := by simp; omega
          have hf2 : linearB c = false := by simp [linearB, hl]
          have HF2 := Lib.hid hf2
          clear hf2 hl h6
          go_wp2_with (go_at_call 47; refine hsc.out.mono ?_; rintro e w2 ⟨rfl, hb⟩; (have HB2 := Lib.hid hb); (have hy := block_kept hb HY.out); (have y0 := cell_at hy (i := 0) rfl); (have y1 := cell_at hy (i := 1) rfl); (have y2 := cell_at hy (i := 2) rfl); (have y3 := cell_at hy (i := 3) rfl); (have hx := block_kept hb HX.out); (have x0 := cell_at hx (i := 0) rfl); (have x1 := cell_at hx (i := 1) rfl); (have x2 := cell_at hx (i := 2) rfl); clear hb hy hx hsc)
          go_ret
          exact ⟨ret_bool (by rw [HF.out, HF2.out]), below_next HB.out HB2.out⟩
      · have hr0 : c.args.length = 0 := by
          by_cases h : 0 < c.args.length
          · exact absurd ⟨h6, h⟩ k4
          · omega
        have hf : hardB x c = rowsB x.doms c.scope none c.rows := by
          have : (decide (2 < c.kind) && decide (0 < c.rows.length)) = false := by
            rw [Bool.and_eq_false_iff, decide_eq_false_iff_not, decide_eq_false_iff_not]; omega
          simp [hardB, hs, h6, hr0, k1, k6, this]
        have HF := Lib.hid hf
        have k6b : (c.kind == 6) = false := by simpa using h6
        have k6c : (c.kind != 6) = true := by simpa using h6
        have k9 : ¬ 0 < c.args.length := by omega
        clear hs hf k4 hr0 h6
        by_cases k7 : 2 < c.kind
        · have k8 : ¬ 0 < c.rows.length := fun h => k2 ⟨k7, h⟩
          clear k2
          go_wp2_with (go_at_call 47; refine hsc.out.mono ?_; rintro e w2 ⟨rfl, hb⟩; (have HB2 := Lib.hid hb); (have hy := block_kept hb HY.out); (have y0 := cell_at hy (i := 0) rfl); (have y1 := cell_at hy (i := 1) rfl); (have y2 := cell_at hy (i := 2) rfl); (have y3 := cell_at hy (i := 3) rfl); (have hx := block_kept hb HX.out); (have x0 := cell_at hx (i := 0) rfl); (have x1 := cell_at hx (i := 1) rfl); (have x2 := cell_at hx (i := 2) rfl); clear hb hy hx hsc)
          refine (refrows_any (.slice AD x.doms.length cD) vH vS (.slice As c.scope.length cs) (.slice Ar c.rows.length cr) x.doms c.scope c.rows ok w2 (HD.out.below (by decide) HB2.out) (HS.out.below (by decide) HB2.out) (HR.out.below (by decide) HB2.out) HSC.out).mono ?_
          rintro e w3 ⟨rfl, hb3⟩
          go_wp2_with fail
          go_ret
          exact ⟨ret_bool HF.out.symm, below_next HB.out (below_next HB2.out hb3)⟩
        · clear k2
          go_wp2_with (go_at_call 47; refine hsc.out.mono ?_; rintro e w2 ⟨rfl, hb⟩; (have HB2 := Lib.hid hb); (have hy := block_kept hb HY.out); (have y0 := cell_at hy (i := 0) rfl); (have y1 := cell_at hy (i := 1) rfl); (have y2 := cell_at hy (i := 2) rfl); (have y3 := cell_at hy (i := 3) rfl); (have hx := block_kept hb HX.out); (have x0 := cell_at hx (i := 0) rfl); (have x1 := cell_at hx (i := 1) rfl); (have x2 := cell_at hx (i := 2) rfl); clear hb hy hx hsc)
          refine (refrows_any (.slice AD x.doms.length cD) vH vS (.slice As c.scope.length cs) (.slice Ar c.rows.length cr) x.doms c.scope c.rows ok w2 (HD.out.below (by decide) HB2.out) (HS.out.below (by decide) HB2.out) (HR.out.below (by decide) HB2.out) HSC.out).mono ?_
          rintro e w3 ⟨rfl, hb3⟩
          go_wp2_with fail
          go_ret
          exact ⟨ret_bool HF.out.symm, below_next HB.out (below_next HB2.out hb3)⟩
    · have hf : hardB x c = false := by
        cases hh : hardB x c
        · rfl
        · exfalso
          apply hg
          simp only [hardB, Bool.and_eq_true, decide_eq_true_eq, Bool.not_eq_true', Bool.and_eq_false_iff, decide_eq_false_iff_not] at hh
          obtain ⟨⟨⟨⟨_, h1⟩, h6⟩, hr⟩, ht⟩ := hh
          refine ⟨h1, h6, by omega, ?_⟩
          rintro ⟨h, ha⟩
          rw [if_neg h] at ht
          simp only [Bool.and_eq_true, decide_eq_true_eq] at ht
          omega
      have HF := Lib.hid hf
      clear hs hf
      by_cases k1 : 1 ≤ c.kind
      · by_cases k6 : c.kind ≤ 6
        · by_cases k2 : 2 < c.kind ∧ 0 < c.rows.length
          · obtain ⟨k2, k3⟩ := k2
            clear hg
            go_wp2_with (go_at_call 47; refine hsc.out.mono ?_; rintro e w2 ⟨rfl, hb⟩; (have HB2 := Lib.hid hb); (have hy := block_kept hb HY.out); (have y0 := cell_at hy (i := 0) rfl); (have y1 := cell_at hy (i := 1) rfl); (have y2 := cell_at hy (i := 2) rfl); (have y3 := cell_at hy (i := 3) rfl); (have hx := block_kept hb HX.out); (have x0 := cell_at hx (i := 0) rfl); (have x1 := cell_at hx (i := 1) rfl); (have x2 := cell_at hx (i := 2) rfl); clear hb hy hx hsc)
            go_ret
            exact ⟨ret_bool HF.out.symm, below_next HB.out HB2.out⟩
          · obtain ⟨k4, k5⟩ : c.kind ≠ 6 ∧ 0 < c.args.length := by
              by_cases h : c.kind ≠ 6 ∧ 0 < c.args.length
              · exact h
              · exact absurd ⟨k1, k6, k2, h⟩ hg
            have k4b : (c.kind != 6) = true := by simpa using k4
            clear hg
            by_cases k7 : 2 < c.kind
            · have k8 : ¬ 0 < c.rows.length := fun h => k2 ⟨k7, h⟩
              clear k2
              go_wp2_with (go_at_call 47; refine hsc.out.mono ?_; rintro e w2 ⟨rfl, hb⟩; (have HB2 := Lib.hid hb); (have hy := block_kept hb HY.out); (have y0 := cell_at hy (i := 0) rfl); (have y1 := cell_at hy (i := 1) rfl); (have y2 := cell_at hy (i := 2) rfl); (have y3 := cell_at hy (i := 3) rfl); (have hx := block_kept hb HX.out); (have x0 := cell_at hx (i := 0) rfl); (have x1 := cell_at hx (i := 1) rfl); (have x2 := cell_at hx (i := 2) rfl); clear hb hy hx hsc)
              go_ret
              exact ⟨ret_bool HF.out.symm, below_next HB.out HB2.out⟩
            · clear k2
              go_wp2_with (go_at_call 47; refine hsc.out.mono ?_; rintro e w2 ⟨rfl, hb⟩; (have HB2 := Lib.hid hb); (have hy := block_kept hb HY.out); (have y0 := cell_at hy (i := 0) rfl); (have y1 := cell_at hy (i := 1) rfl); (have y2 := cell_at hy (i := 2) rfl); (have y3 := cell_at hy (i := 3) rfl); (have hx := block_kept hb HX.out); (have x0 := cell_at hx (i := 0) rfl); (have x1 := cell_at hx (i := 1) rfl); (have x2 := cell_at hx (i := 2) rfl); clear hb hy hx hsc)
              go_ret
              exact ⟨ret_bool HF.out.symm, below_next HB.out HB2.out⟩
        · clear hg
          go_wp2_with (go_at_call 47; refine hsc.out.mono ?_; rintro e w2 ⟨rfl, hb⟩; (have HB2 := Lib.hid hb); (have hy := block_kept hb HY.out); (have y0 := cell_at hy (i := 0) rfl); (have y1 := cell_at hy (i := 1) rfl); (have y2 := cell_at hy (i := 2) rfl); (have y3 := cell_at hy (i := 3) rfl); (have hx := block_kept hb HX.out); (have x0 := cell_at hx (i := 0) rfl); (have x1 := cell_at hx (i := 1) rfl); (have x2 := cell_at hx (i := 2) rfl); clear hb hy hx hsc)
          go_ret
          exact ⟨ret_bool HF.out.symm, below_next HB.out HB2.out⟩
      · clear hg
        go_wp2_with (go_at_call 47; refine hsc.out.mono ?_; rintro e w2 ⟨rfl, hb⟩; (have HB2 := Lib.hid hb); (have hy := block_kept hb HY.out); (have y0 := cell_at hy (i := 0) rfl); (have y1 := cell_at hy (i := 1) rfl); (have y2 := cell_at hy (i := 2) rfl); (have y3 := cell_at hy (i := 3) rfl); (have hx := block_kept hb HX.out); (have x0 := cell_at hx (i := 0) rfl); (have x1 := cell_at hx (i := 1) rfl); (have x2 := cell_at hx (i := 2) rfl); clear hb hy hx hsc)
        go_ret
        exact ⟨ret_bool HF.out.symm, below_next HB.out HB2.out⟩
end Go.Proofs.YtgpgmmkkmoecmaaGreatDoor

/- arboristref06.soft. -/
namespace Go.Proofs.YtgpgmmkkmoecmaaGreatDoor
open Go.RowKit
attribute [local irreducible] wpStill wpLex Calls

theorem wideAny_drop (l : List Int) (k : Nat) (h : k < l.length) : wideAny (l.drop k) = (!smallB (nth 0 l k) 1000000000000 || wideAny (l.drop (k + 1))) := by
  rw [drop_cons l 0 k h]; rfl
set_option maxRecDepth 100000 in
set_option maxHeartbeats 8000000 in
theorem refsoft_any (vD vH vS vs vr va : Value) (x : Ins) (c : Sft) (ok : Nat → Prop) (w : World) (hD : Sl kRow w ok vD x.doms) (h1 : Sl (Kd.int .i64) w ok vs c.scope) (h2 : Sl kRow w ok vr c.rows) (h3 : Sl (Kd.int .i64) w ok va c.costs) :
    Calls Tryz.prog 19 #[.agg #[vD, vH, vS], .agg #[vs, vr, va, .int .i64 c.dflt]] w fun e w' => e = .returned (.bool (softB x c)) ∧ Below w.heap.size w w' := by
  obtain ⟨AD, cD, rfl, hcD, hmD, hAD⟩ := hD
  obtain ⟨As, cs, rfl, hcs, hms, hAs⟩ := h1
  obtain ⟨Ar, cr, rfl, hcr, hmr, hAr⟩ := h2
  obtain ⟨Aa, ca, rfl, hca, hma, hAa⟩ := h3
  have HB := Lib.hid (below_next (below_alloc1 w (.cells #[.slice AD x.doms.length cD, vH, vS] 30)) (below_alloc1 _ (.cells #[.slice As c.scope.length cs, .slice Ar c.rows.length cr, .slice Aa c.costs.length ca, .int .i64 c.dflt] 37)))
  have HD := Lib.hid (Sl.below (v := .slice AD x.doms.length cD) (xs := x.doms) (by decide) ⟨AD, cD, rfl, hcD, hmD, hAD⟩ HB.out)
  have HS := Lib.hid (Sl.below (v := .slice As c.scope.length cs) (xs := c.scope) (by decide) ⟨As, cs, rfl, hcs, hms, hAs⟩ HB.out)
  have HR := Lib.hid (Sl.below (v := .slice Ar c.rows.length cr) (xs := c.rows) (by decide) ⟨Ar, cr, rfl, hcr, hmr, hAr⟩ HB.out)
  have HA := Lib.hid (Sl.below (v := .slice Aa c.costs.length ca) (xs := c.costs) (by decide) ⟨Aa, ca, rfl, hca, hma, hAa⟩ HB.out)
  have HX := Lib.hid (block_kept (below_alloc1 _ (.cells #[.slice As c.scope.length cs, .slice Ar c.rows.length cr, .slice Aa c.costs.length ca, .int .i64 c.dflt] 37)) (heap_alloc_new w (.cells #[.slice AD x.doms.length cD, vH, vS] 30)))
  have hy : ((w.alloc (.cells #[.slice AD x.doms.length cD, vH, vS] 30)).alloc (.cells #[.slice As c.scope.length cs, .slice Ar c.rows.length cr, .slice Aa c.costs.length ca, .int .i64 c.dflt] 37)).heap[w.heap.size + 1]? = some (.cells #[.slice As c.scope.length cs, .slice Ar c.rows.length cr, .slice Aa c.costs.length ca, .int .i64 c.dflt] 37) := by
    have := heap_alloc_new (w.alloc (.cells #[.slice AD x.doms.length cD, vH, vS] 30)) (.cells #[.slice As c.scope.length cs, .slice Ar c.rows.length cr, .slice Aa c.costs.length ca, .int .i64 c.dflt] 37)
    simpa using this
  have HY := Lib.hid hy
  have hsc := Lib.hid (refscope_any (.slice AD x.doms.length cD) vH vS (.slice As c.scope.length cs) x.doms c.scope ok _ HD.out HS.out)
  clear hAD hAs hAr hAa hcD hmD hcs hcr hca hy
  go_enter Tryz.func19, Tryz.ntmps19
  cases hs : scopeB x.doms.length c.scope
  · rw [hs] at hsc
    have hf : softB x c = false := by simp [softB, hs]
    have HF := Lib.hid hf
    clear hs hf
    go_wp2_with (go_at_call 47; refine hsc.out.mono ?_; rintro e w2 ⟨rfl, hb⟩; (have HB2 := Lib.hid hb); (have hy := block_kept hb HY.out); (have y0 := cell_at hy (i := 0) rfl); (have y1 := cell_at hy (i := 1) rfl); (have y2 := cell_at hy (i := 2) rfl); (have y3 := cell_at hy (i := 3) rfl); (have hx := block_kept hb HX.out); (have x0 := cell_at hx (i := 0) rfl); (have x1 := cell_at hx (i := 1) rfl); (have x2 := cell_at hx (i := 2) rfl); clear hb hy hx hsc)
    go_ret
    exact ⟨ret_bool HF.out.symm, below_next HB.out HB2.out⟩
  · rw [hs] at hsc
    have HSC := Lib.hid (scopeB_range hs)
    by_cases hl : c.costs.length = c.rows.length
    · have hlb : ((c.costs.length : Int) != c.rows.length) = false := by simp; omega
      by_cases hd1 : -1000000000000 ≤ c.dflt
      · by_cases hd2 : c.dflt ≤ 1000000000000
        · have hsm : smallB c.dflt 1000000000000 = true := by simp [smallB, hd1, hd2]
          have hf : softB x c = (!wideAny c.costs && rowsB x.doms c.scope none c.rows) := by simp [softB, hs, hl, hsm]
          have HF := Lib.hid hf
          clear hs hf hl hsm
          go_wp2_with (go_at_call 47; refine hsc.out.mono ?_; rintro e w2 ⟨rfl, hb⟩; (have HB2 := Lib.hid hb); (have hy := block_kept hb HY.out); (have y0 := cell_at hy (i := 0) rfl); (have y1 := cell_at hy (i := 1) rfl); (have y2 := cell_at hy (i := 2) rfl); (have y3 := cell_at hy (i := 3) rfl); (have hx := block_kept hb HX.out); (have x0 := cell_at hx (i := 0) rfl); (have x1 := cell_at hx (i := 1) rfl); (have x2 := cell_at hx (i := 2) rfl); clear hb hy hx hsc)
          go_loop [6] (fun i => ∃ k : Nat, i = .int .i64 k ∧ k ≤ c.costs.length ∧ Hid (wideAny c.costs = wideAny (c.costs.drop k))) (fun i => c.costs.length - (intOf i).toNat)
          case atStart => exact ⟨0, rfl, by omega, Lib.hid rfl⟩
          case round =>
            obtain ⟨k, rfl, hk, H⟩ := hrel
            by_cases hkl : k < c.costs.length
            · obtain ⟨b', o', rfl, a3⟩ := HA.out.elems.num hkl
              have d3 := cell_kept HB2.out a3
              have H' := Lib.hid (wideAny_drop c.costs k hkl)
              by_cases q1 : -1000000000000 ≤ nth 0 c.costs k
              · by_cases q2 : nth 0 c.costs k ≤ 1000000000000
                · have hsm : smallB (nth 0 c.costs k) 1000000000000 = true := by simp [smallB, q1, q2]
                  have HSM := Lib.hid hsm
                  clear hsm
                  go_wp2_with fail
                  go_round
                  case rel => exact ⟨k + 1, by go_num, by omega, Lib.hid (by rw [H.out, H'.out, HSM.out]; simp)⟩
                  case measure => simp [intOf]; omega
                · have hsm : smallB (nth 0 c.costs k) 1000000000000 = false := by simp [smallB, q2]
                  have hf3 : softB x c = false := by rw [HF.out, H.out, H'.out, hsm]; simp
                  have HF3 := Lib.hid hf3
                  clear hsm hf3
                  go_wp2_with fail
                  go_ret
                  exact ⟨ret_bool HF3.out.symm, below_next HB.out HB2.out⟩
              · have hsm : smallB (nth 0 c.costs k) 1000000000000 = false := by simp [smallB, q1]
                have hf3 : softB x c = false := by rw [HF.out, H.out, H'.out, hsm]; simp
                have HF3 := Lib.hid hf3
                clear hsm hf3
                go_wp2_with fail
                go_ret
                exact ⟨ret_bool HF3.out.symm, below_next HB.out HB2.out⟩
            · have hf3 : softB x c = rowsB x.doms c.scope none c.rows := by rw [HF.out, H.out, List.drop_eq_nil_of_le (by omega)]; simp [wideAny]
              have HF3 := Lib.hid hf3
              clear hf3
              go_wp2_with fail
              refine (refrows_any (.slice AD x.doms.length cD) vH vS (.slice As c.scope.length cs) (.slice Ar c.rows.length cr) x.doms c.scope c.rows ok w2 (HD.out.below (by decide) HB2.out) (HS.out.below (by decide) HB2.out) (HR.out.below (by decide) HB2.out) HSC.out).mono ?_
              rintro e w3 ⟨rfl, hb3⟩
              go_wp2_with fail
              go_ret
              exact ⟨ret_bool HF3.out.symm, below_next HB.out (below_next HB2.out hb3)⟩
        · have hf : softB x c = false := by simp [softB, smallB, hd2]
          have HF := Lib.hid hf
          clear hs hf hl
          go_wp2_with (go_at_call 47; refine hsc.out.mono ?_; rintro e w2 ⟨rfl, hb⟩; (have HB2 := Lib.hid hb); (have hy := block_kept hb HY.out); (have y0 := cell_at hy (i := 0) rfl); (have y1 := cell_at hy (i := 1) rfl); (have y2 := cell_at hy (i := 2) rfl); (have y3 := cell_at hy (i := 3) rfl); (have hx := block_kept hb HX.out); (have x0 := cell_at hx (i := 0) rfl); (have x1 := cell_at hx (i := 1) rfl); (have x2 := cell_at hx (i := 2) rfl); clear hb hy hx hsc)
          go_ret
          exact ⟨ret_bool HF.out.symm, below_next HB.out HB2.out⟩
      · have hf : softB x c = false := by simp [softB, smallB, hd1]
        have HF := Lib.hid hf
        clear hs hf hl
        go_wp2_with (go_at_call 47; refine hsc.out.mono ?_; rintro e w2 ⟨rfl, hb⟩; (have HB2 := Lib.hid hb); (have hy := block_kept hb HY.out); (have y0 := cell_at hy (i := 0) rfl); (have y1 := cell_at hy (i := 1) rfl); (have y2 := cell_at hy (i := 2) rfl); (have y3 := cell_at hy (i := 3) rfl); (have hx := block_kept hb HX.out); (have x0 := cell_at hx (i := 0) rfl); (have x1 := cell_at hx (i := 1) rfl); (have x2 := cell_at hx (i := 2) rfl); clear hb hy hx hsc)
        go_ret
        exact ⟨ret_bool HF.out.symm, below_next HB.out HB2.out⟩
    · have hlb : ((c.costs.length : Int) != c.rows.length) = true := by simp; omega
      have hf : softB x c = false := by simp [softB, hl]
      have HF := Lib.hid hf
      clear hs hf hl
      go_wp2_with (go_at_call 47; refine hsc.out.mono ?_; rintro e w2 ⟨rfl, hb⟩; (have HB2 := Lib.hid hb); (have hy := block_kept hb HY.out); (have y0 := cell_at hy (i := 0) rfl); (have y1 := cell_at hy (i := 1) rfl); (have y2 := cell_at hy (i := 2) rfl); (have y3 := cell_at hy (i := 3) rfl); (have hx := block_kept hb HX.out); (have x0 := cell_at hx (i := 0) rfl); (have x1 := cell_at hx (i := 1) rfl); (have x2 := cell_at hx (i := 2) rfl); clear hb hy hx hsc)
      go_ret
      exact ⟨ret_bool HF.out.symm, below_next HB.out HB2.out⟩
end Go.Proofs.YtgpgmmkkmoecmaaGreatDoor

/- arboristref06.Right. -/
namespace Go.Proofs.YtgpgmmkkmoecmaaGreatDoor
open Go.RowKit
attribute [local irreducible] wpStill wpLex Calls

theorem all_drop {α : Type} (z : α) (p : α → Bool) (l : List α) (k : Nat) (h : k < l.length) : (l.drop k).all p = (p (nth z l k) && (l.drop (k + 1)).all p) := by
  rw [drop_cons l z k h]; rfl
theorem all_take {α : Type} (z : α) (p : α → Bool) (l : List α) (k : Nat) (h : k < l.length) : (l.take (k + 1)).all p = ((l.take k).all p && p (nth z l k)) := by
  rw [take_snoc z l k h, List.all_append]; simp
set_option maxRecDepth 100000 in
set_option maxHeartbeats 8000000 in
theorem refright_any (vD vH vS : Value) (x : Ins) (ok : Nat → Prop) (w : World) (hD : Sl kRow w ok vD x.doms) (hH : Sl kCon w ok vH x.hard) (hS : Sl kSft w ok vS x.soft) :
    Calls Tryz.prog 7 #[.agg #[vD, vH, vS]] w fun e w' => e = .returned (.bool (rightB x)) ∧ Below w.heap.size w w' := by
  obtain ⟨AD, cD, rfl, hcD, hmD, hAD⟩ := hD
  obtain ⟨AH, cH, rfl, hcH, hmH, hAH⟩ := hH
  obtain ⟨AS, cS, rfl, hcS, hmS, hAS⟩ := hS
  have HB := Lib.hid (below_alloc1 w (.cells #[.slice AD x.doms.length cD, .slice AH x.hard.length cH, .slice AS x.soft.length cS] 30))
  have HD := Lib.hid (Sl.below (v := .slice AD x.doms.length cD) (xs := x.doms) (by decide) ⟨AD, cD, rfl, hcD, hmD, hAD⟩ HB.out)
  have HH := Lib.hid (Sl.below (v := .slice AH x.hard.length cH) (xs := x.hard) (by decide) ⟨AH, cH, rfl, hcH, hmH, hAH⟩ HB.out)
  have HS := Lib.hid (Sl.below (v := .slice AS x.soft.length cS) (xs := x.soft) (by decide) ⟨AS, cS, rfl, hcS, hmS, hAS⟩ HB.out)
  have HX := Lib.hid (heap_alloc_new w (.cells #[.slice AD x.doms.length cD, .slice AH x.hard.length cH, .slice AS x.soft.length cS] 30))
  clear hAD hAH hAS
  by_cases hg : x.doms.length ≤ 40 ∧ x.hard.length ≤ 200 ∧ x.soft.length ≤ 200
  · obtain ⟨g1, g2, g3⟩ := hg
    have hf : rightB x = (x.doms.all domainB && x.hard.all (hardB x) && x.soft.all (softB x)) := by simp [rightB, g1, g2, g3]
    have HF := Lib.hid hf
    clear hf
    go_enter Tryz.func7, Tryz.ntmps7
    go_wp2_with fail
    generalize w.alloc (.cells #[.slice AD x.doms.length cD, .slice AH x.hard.length cH, .slice AS x.soft.length cS] 30) = W0 at *
    go_loopw [3, 4] (fun i _ wr => ∃ k : Nat, i = .int .i64 k ∧ k ≤ x.doms.length ∧ Hid (x.doms.all domainB = (x.doms.drop k).all domainB) ∧ Hid (Below W0.heap.size W0 wr)) (fun i _ _ => x.doms.length - (intOf i).toNat)
    case atStart => exact ⟨0, rfl, by omega, Lib.hid rfl, Lib.hid (Below.refl _ _)⟩
    case round =>
      obtain ⟨k, rfl, hk, H, HW⟩ := hrel
      have hx := block_kept HW.out HX.out
      have x0 := cell_at hx (i := 0) rfl
      have x1 := cell_at hx (i := 1) rfl
      have x2 := cell_at hx (i := 2) rfl
      by_cases hkl : k < x.doms.length
      · obtain ⟨b, o, vt, rfl, c1, ht⟩ := HD.out.elems.row hkl
        have c1 := cell_kept HW.out c1
        have HT := Lib.hid (ht.below (by decide) HW.out)
        obtain ⟨At, ct, rfl, hct, hmt, _⟩ := ht
        have H' := Lib.hid (all_drop [] domainB x.doms k hkl)
        generalize nth [] x.doms k = d at *
        have HRI := Lib.hid (refrising_any _ _ _ _ HT.out)
        clear hx
        have bad : domainB d = false → Hid (rightB x = false) := fun h => Lib.hid (by rw [HF.out, H.out, H'.out, h]; simp)
        by_cases q0 : 0 < d.length
        · by_cases q1 : d.length ≤ 16
          · obtain ⟨b2, o2, rfl, c2⟩ := HT.out.elems.num q0
            obtain ⟨b3, o3, he, c3⟩ := HT.out.elems.num (j := d.length - 1) (by omega)
            injection he with he
            injection he with he1 he2
            subst he1 he2
            simp only [Nat.add_zero] at c2
            have hs0 : IntKind.i64.wrap ((d.length:Int) - 1) = (d.length:Int) - 1 := IntWalk.i64_in _ (by omega)
            have hs1 : ((d.length:Int) - 1).toNat = d.length - 1 := by omega
            have hs2 : ¬ d.length < 1 := by omega
            cases q2 : risingB d
            · have HBAD := bad (by simp [domainB, q2])
              rw [q2] at HRI
              clear bad q2 c2 c3
              go_wp2_with (first
                | (go_at_call 16; refine HRI.out.mono ?_; rintro e w3 ⟨rfl, n, rfl⟩; (have HW3 := Lib.hid (below_drewN HW.out n)); clear HRI)
                | (go_at_call 17; refine (refsmall_any _ _ _ (by omega) (by omega)).mono ?_; rintro e w' ⟨rfl, rfl⟩))
              go_ret
              exact ⟨ret_bool HBAD.out.symm, HB.out.trans (HW3.out.mono HB.out.size)⟩
            · rw [q2] at HRI
              cases q3 : smallB (nth 0 d 0) 1000000
              · have HBAD := bad (by simp [domainB, q3])
                clear bad q2 c3
                go_wp2_with (first
                  | (go_at_call 16; refine HRI.out.mono ?_; rintro e w3 ⟨rfl, n, rfl⟩; (have HW3 := Lib.hid (below_drewN HW.out n)); clear HRI)
                  | (go_at_call 17; refine (refsmall_any _ _ _ (by omega) (by omega)).mono ?_; rintro e w' ⟨rfl, rfl⟩))
                go_ret
                exact ⟨ret_bool HBAD.out.symm, HB.out.trans (HW3.out.mono HB.out.size)⟩
              · cases q4 : smallB (nth 0 d (d.length - 1)) 1000000
                · have HBAD := bad (by simp [domainB, q4])
                  clear bad q2
                  go_wp2_with (first
                    | (go_at_call 16; refine HRI.out.mono ?_; rintro e w3 ⟨rfl, n, rfl⟩; (have HW3 := Lib.hid (below_drewN HW.out n)); clear HRI)
                    | (go_at_call 17; refine (refsmall_any _ _ _ (by omega) (by omega)).mono ?_; rintro e w' ⟨rfl, rfl⟩))
                  go_ret
                  exact ⟨ret_bool HBAD.out.symm, HB.out.trans (HW3.out.mono HB.out.size)⟩
                · have hgood : domainB d = true := by simp [domainB, q0, q1, q2, q3, q4]
                  have HGO := Lib.hid hgood
                  clear bad q2 hgood
                  go_wp2_with (first
                    | (go_at_call 16; refine HRI.out.mono ?_; rintro e w3 ⟨rfl, n, rfl⟩; (have HW3 := Lib.hid (below_drewN HW.out n)); clear HRI)
                    | (go_at_call 17; refine (refsmall_any _ _ _ (by omega) (by omega)).mono ?_; rintro e w' ⟨rfl, rfl⟩))
                  go_roundw
                  case rel => exact ⟨k + 1, by go_num, by omega, Lib.hid (by rw [H.out, H'.out, HGO.out, Bool.true_and]), HW3⟩
                  case measure => simp [intOf]; omega
          · have hs2 : ¬ d.length < 1 := by omega
            have HBAD := bad (by simp [domainB, q1])
            clear bad
            go_wp2_with (first
              | (go_at_call 16; refine HRI.out.mono ?_; rintro e w3 ⟨rfl, n, rfl⟩; (have HW3 := Lib.hid (below_drewN HW.out n)); clear HRI)
              | (go_at_call 17; refine (refsmall_any _ _ _ (by omega) (by omega)).mono ?_; rintro e w' ⟨rfl, rfl⟩))
            go_ret
            exact ⟨ret_bool HBAD.out.symm, HB.out.trans (HW.out.mono HB.out.size)⟩
        · have hs2 : d.length < 1 := by omega
          have HBAD := bad (by simp [domainB, q0])
          clear bad
          go_wp2_with (first
            | (go_at_call 16; refine HRI.out.mono ?_; rintro e w3 ⟨rfl, n, rfl⟩; (have HW3 := Lib.hid (below_drewN HW.out n)); clear HRI)
            | (go_at_call 17; refine (refsmall_any _ _ _ (by omega) (by omega)).mono ?_; rintro e w' ⟨rfl, rfl⟩))
          go_ret
          exact ⟨ret_bool HBAD.out.symm, HB.out.trans (HW.out.mono HB.out.size)⟩
      · have hall : x.doms.all domainB = true := by rw [H.out, List.drop_eq_nil_of_le (by omega)]; rfl
        have HF2 : Hid (rightB x = (x.hard.all (hardB x) && x.soft.all (softB x))) := Lib.hid (by rw [HF.out, hall, Bool.true_and])
        clear hall hx H HF
        go_wp2_with fail
        clear x0 x1 x2
        go_loopw [5, 6, 7] (fun okv i _ wr => ∃ k : Nat, i = .int .i64 k ∧ k ≤ x.hard.length ∧ okv = .bool ((x.hard.take k).all (hardB x)) ∧ Hid (Below W0.heap.size W0 wr)) (fun _ i _ _ => x.hard.length - (intOf i).toNat)
        case atStart => exact ⟨0, rfl, by omega, rfl, HW⟩
        case round =>
          obtain ⟨k2, rfl, hk2, rfl, HW2⟩ := hrel
          have hx := block_kept HW2.out HX.out
          by_cases hkl2 : k2 < x.hard.length
          · have y1 := cell_at hx (i := 1) rfl
            have hbd := below_next HW2.out (Below.drew (Below.refl _ _))
            have hx3 := block_kept hbd HX.out
            have x0 := cell_at hx3 (i := 0) rfl
            have x1 := cell_at hx3 (i := 1) rfl
            have x2 := cell_at hx3 (i := 2) rfl
            obtain ⟨b, o, cs, rfl, _, hK, hcell⟩ := HH.out.elems k2 (nth default x.hard k2) (nth_get default x.hard k2 hkl2)
            obtain ⟨vs, vr, va, rfl, e1, e2, e3⟩ := kCon_cells hK
            have f0 := cell_kept hbd (hcell 0 _ rfl)
            have f1 := cell_kept hbd (hcell 1 _ rfl)
            have f2 := cell_kept hbd (hcell 2 _ rfl)
            have f3 := cell_kept hbd (hcell 3 _ rfl)
            simp only [show kCon.sz = 4 from rfl, Nat.add_zero, ← Nat.add_assoc] at f0 f1 f2 f3
            have hct := Lib.hid (refhard_any (.slice AD x.doms.length cD) (.slice (some ⟨b, o, none⟩) x.hard.length cH) (.slice AS x.soft.length cS) vs vr va x (nth default x.hard k2) ok _ (HD.out.below (by decide) hbd) (e1.below (by decide) hbd) (e2.below (by decide) hbd) (e3.below (by decide) hbd))
            have HN := Lib.hid (all_take default (hardB x) x.hard k2 hkl2)
            generalize nth default x.hard k2 = c at *
            generalize (x.hard.take k2).all (hardB x) = B at *
            have HBD := Lib.hid hbd
            clear hx hx3 hbd hcell hK e1 e2 e3
            go_wp2_with fail
            refine wp_region_still_tail 6 (by kernel_rfl) (by kernel_rfl) ?_
            change wpStill _ _ (World.drew wr) (fun a' => wpList _ _ _ _ a' (World.drew wr)) _ _
            generalize World.drew wr = W at *
            simp only [List.take_succ_cons, List.take_zero, List.drop_succ_cons, List.drop_zero]
            repeat (first | (refine still_plain rfl (fun K hK => ?_); go_simp; refine hK _ ?_; clear hK K) | (refine still_off _ _ _ _ _ rfl rfl rfl rfl rfl (fun K hK => ?_); go_simp; refine hK _ ?_; clear hK K) | (refine still_on _ _ _ _ rfl rfl rfl rfl (fun K hK => ?_); go_simp; refine hK _ ?_; clear hK K) | (refine still_dead _ _ _ _ rfl rfl rfl rfl (fun K hK => ?_); go_simp; refine hK _ ?_; clear hK K))
            refine wpStill_nil ?_
            cases hB : B <;> cases hC : hardB x c
            all_goals (rw [hC] at hct)
            all_goals go_wp2_with (go_at_call 18; refine hct.out.mono ?_; rintro e w4 ⟨rfl, hb4⟩; (have HW4 := Lib.hid (below_next HBD.out hb4)))
            all_goals go_roundw
            all_goals first
              | (case rel => exact ⟨k2 + 1, by go_num, by omega, by rw [HN.out, hB, hC]; rfl, HW4⟩)
              | (case measure => simp [intOf]; omega)
          · have hall : (x.hard.take k2).all (hardB x) = x.hard.all (hardB x) := by rw [List.take_of_length_le (by omega)]
            rw [hall]
            have y1 := cell_at hx (i := 1) rfl
            clear hall hx
            generalize x.hard.all (hardB x) = A at *
            go_wp2_with fail
            clear y1
            go_loopw [5, 8, 9] (fun okv i _ wr => ∃ k : Nat, i = .int .i64 k ∧ k ≤ x.soft.length ∧ okv = .bool (A && (x.soft.take k).all (softB x)) ∧ Hid (Below W0.heap.size W0 wr)) (fun _ i _ _ => x.soft.length - (intOf i).toNat)
            case atStart => exact ⟨0, rfl, by omega, by simp, HW2⟩
            case round =>
              obtain ⟨k3, rfl, hk3, rfl, HW3⟩ := hrel
              have hx := block_kept HW3.out HX.out
              by_cases hkl3 : k3 < x.soft.length
              · have y1 := cell_at hx (i := 2) rfl
                have hbd := below_next HW3.out (Below.drew (Below.refl _ _))
                have hx3 := block_kept hbd HX.out
                have x0 := cell_at hx3 (i := 0) rfl
                have x1 := cell_at hx3 (i := 1) rfl
                have x2 := cell_at hx3 (i := 2) rfl
                obtain ⟨b, o, cs, rfl, _, hK, hcell⟩ := HS.out.elems k3 (nth default x.soft k3) (nth_get default x.soft k3 hkl3)
                obtain ⟨vs, vr, va, rfl, e1, e2, e3⟩ := kSft_cells hK
                have f0 := cell_kept hbd (hcell 0 _ rfl)
                have f1 := cell_kept hbd (hcell 1 _ rfl)
                have f2 := cell_kept hbd (hcell 2 _ rfl)
                have f3 := cell_kept hbd (hcell 3 _ rfl)
                simp only [show kSft.sz = 4 from rfl, Nat.add_zero, ← Nat.add_assoc] at f0 f1 f2 f3
                have hct := Lib.hid (refsoft_any (.slice AD x.doms.length cD) (.slice AH x.hard.length cH) (.slice (some ⟨b, o, none⟩) x.soft.length cS) vs vr va x (nth default x.soft k3) ok _ (HD.out.below (by decide) hbd) (e1.below (by decide) hbd) (e2.below (by decide) hbd) (e3.below (by decide) hbd))
                have HN := Lib.hid (all_take default (softB x) x.soft k3 hkl3)
                generalize nth default x.soft k3 = c at *
                obtain ⟨B, hBd⟩ : ∃ B, (A && (x.soft.take k3).all (softB x)) = B := ⟨_, rfl⟩
                have HBd := Lib.hid hBd
                rw [hBd]
                have HBD := Lib.hid hbd
                clear hx hx3 hbd hcell hK e1 e2 e3 hBd
                go_wp2_with fail
                refine wp_region_still_tail 6 (by kernel_rfl) (by kernel_rfl) ?_
                change wpStill _ _ (World.drew wr) (fun a' => wpList _ _ _ _ a' (World.drew wr)) _ _
                generalize World.drew wr = W at *
                simp only [List.take_succ_cons, List.take_zero, List.drop_succ_cons, List.drop_zero]
                repeat (first | (refine still_plain rfl (fun K hK => ?_); go_simp; refine hK _ ?_; clear hK K) | (refine still_off _ _ _ _ _ rfl rfl rfl rfl rfl (fun K hK => ?_); go_simp; refine hK _ ?_; clear hK K) | (refine still_on _ _ _ _ rfl rfl rfl rfl (fun K hK => ?_); go_simp; refine hK _ ?_; clear hK K) | (refine still_dead _ _ _ _ rfl rfl rfl rfl (fun K hK => ?_); go_simp; refine hK _ ?_; clear hK K))
                refine wpStill_nil ?_
                cases hB : B <;> cases hC : softB x c
                all_goals (rw [hC] at hct)
                all_goals go_wp2_with (go_at_call 19; refine hct.out.mono ?_; rintro e w4 ⟨rfl, hb4⟩; (have HW4 := Lib.hid (below_next HBD.out hb4)))
                all_goals go_roundw
                all_goals first
                  | (case rel => exact ⟨k3 + 1, by go_num, by omega, by rw [HN.out, ← Bool.and_assoc, HBd.out, hB, hC]; rfl, HW4⟩)
                  | (case measure => simp [intOf]; omega)
              · have hall : (x.soft.take k3).all (softB x) = x.soft.all (softB x) := by rw [List.take_of_length_le (by omega)]
                rw [hall, ← HF2.out]
                have y1 := cell_at hx (i := 2) rfl
                clear hall hx
                go_wp2_with fail
                go_ret
                exact ⟨rfl, HB.out.trans (HW3.out.mono HB.out.size)⟩
  · have hf : rightB x = false := by
      cases hh : rightB x
      · rfl
      · exfalso
        apply hg
        exact ⟨(right_doms hh).1, (right_hard hh).1, (right_soft hh).1⟩
    have HF := Lib.hid hf
    clear hf
    by_cases g1 : x.doms.length ≤ 40
    · by_cases g2 : x.hard.length ≤ 200
      · have g3 : ¬ x.soft.length ≤ 200 := fun g3 => hg ⟨g1, g2, g3⟩
        clear hg
        go_enter Tryz.func7, Tryz.ntmps7
        go_wp2_with fail
        go_ret
        exact ⟨ret_bool HF.out.symm, HB.out⟩
      · clear hg
        go_enter Tryz.func7, Tryz.ntmps7
        go_wp2_with fail
        go_ret
        exact ⟨ret_bool HF.out.symm, HB.out⟩
    · clear hg
      go_enter Tryz.func7, Tryz.ntmps7
      go_wp2_with fail
      go_ret
      exact ⟨ret_bool HF.out.symm, HB.out⟩
end Go.Proofs.YtgpgmmkkmoecmaaGreatDoor

/- The parser, at the tokens of right statements. -/
namespace Go.Proofs.YtgpgmmkkmoecmaaGreatDoor

theorem linearQ_c {nd : Nat} (hnd : nd ≤ 40) {c : List Tok} {r : List Tok} {t : Tok} {x : Con} (hl : linearB x = true) (hs : scopeB nd x.scope = true)
    (h : c.map er = linK 0 x.args x.scope ++ [sT 58, wT (nth [] howsT (nth 0 x.args x.scope.length).toNat), nT (nth 0 x.args (x.scope.length + 1))]) (_ : er t = sT 59) :
    linearQ nd (c ++ t :: r) = .ok ((x.args, x.scope), t :: r) := by
  obtain ⟨kind, scope, rows, args⟩ := x
  simp only [linearB, Bool.and_eq_true, decide_eq_true_eq] at hl
  obtain ⟨⟨⟨ha, h0⟩, h2⟩, hargs⟩ := hl
  simp only at ha h0 h2 hargs hs h
  obtain ⟨hk, hne⟩ := scope_ok hs
  have hat := args_at scope.length args 0 hargs
  obtain ⟨c1, c2, rfl, hc1, hc2⟩ := map_app_er h
  obtain ⟨u1, c3, rfl, hu1, hc3⟩ := map_cons_er hc2
  obtain ⟨u2, c4, rfl, hu2, hc4⟩ := map_cons_er hc3
  obtain ⟨u3, c5, rfl, hu3, hc5⟩ := map_cons_er hc4
  obtain rfl := map_nil_er hc5
  rw [← linK_take] at hc1
  have hsplit : args = args.take scope.length ++ [nth 0 args scope.length, nth 0 args (scope.length + 1)] := by
    conv => lhs; rw [← List.take_append_drop scope.length args]
    rw [drop_cons args 0 scope.length (by omega), drop_cons args 0 (scope.length + 1) (by omega), List.drop_eq_nil_of_le (by omega)]
  have htl : (args.take scope.length).length = scope.length := by rw [List.length_take]; omega
  have hnz : ∀ b ∈ args.take scope.length, b ≠ 0 ∧ smallB b 1000000 = true := by
    intro b hb
    obtain ⟨k, hk, rfl⟩ := mem_nth 0 hb
    have hk' : k < args.length := by rw [htl] at hk; omega
    have he : nth 0 (args.take scope.length) k = nth 0 args k := by
      simp [nth, List.getD_eq_getElem?_getD, List.getElem?_take_of_lt (show k < scope.length by omega)]
    rw [he]
    exact ⟨(hat k hk').1 (by omega), (hat k hk').2⟩
  generalize hA : args.take scope.length = A at *
  have hterm : ∀ q n, scope.length < n + 1 → termsQ nd n [] [] (c1 ++ (u1 :: q)) = .ok ((A, scope), u1 :: q) := by
    intro q n hn
    cases hsc : scope with
    | nil => exact absurd hsc hne
    | cons v vs =>
      cases hac : A with
      | nil => rw [hac] at htl; rw [hsc] at htl; simp at htl
      | cons a aa =>
        rw [hac, hsc, linK, if_neg (by omega), List.nil_append] at hc1
        rw [hac, hsc] at htl
        rw [hac] at hnz
        rw [hsc] at hk hn
        have := termsQ_c nd hnd aa vs a v n [] [] c1 (u1 :: q) hc1 (by simpa using htl) hnz (by simpa using hk) (by simp at hn; omega) ⟨u1, q, rfl, isP_other hu1 (by decide)⟩
        simpa using this
  have hlen1 : scope.length ≤ c1.length := by
    have hrl : ∀ (aa vs : List Int) (i : Nat), aa.length = vs.length → vs.length ≤ (linK i aa vs).length := by
      intro aa
      induction aa with
      | nil => intro vs i h; cases vs with
        | nil => simp
        | cons v vs => simp at h
      | cons a aa ih => intro vs i h; cases vs with
        | nil => simp
        | cons v vs => have := ih vs (i + 1) (by simpa using h); rw [linK]; simp; omega
    have := hrl A scope 0 htl
    have hl2 : (c1.map er).length = c1.length := by simp
    rw [hc1] at hl2
    omega
  rw [linearQ, show c1 ++ u1 :: u2 :: [u3] ++ t :: r = c1 ++ (u1 :: u2 :: u3 :: t :: r) by simp, hterm (u2 :: u3 :: t :: r) _ (by simp; omega)]
  simp only [signQ_c hu1]
  have hw := er_word hu2
  simp only [nextQ, hw.1, hw.2, how_at _ h0 h2]
  rw [if_pos ⟨trivial, h0⟩, if_neg (show ¬ ((1 : Int) = 4) by decide), numberQ_c hu3 (hat (scope.length + 1) (by omega)).2]
  simp only [(er_num hu3).2]
  rw [← hsplit]
theorem hardQ_c {x : Ins} {c : Con} {cs : List Tok} {r : List Tok} {t : Tok} (hd : DomsOk x.doms) (hb : hardB x c = true) (ht : er t = sT 59)
    (h : cs.map er = (if c.kind = 6 then linK 0 c.args c.scope ++ [sT 58, wT (nth [] howsT (nth 0 c.args c.scope.length).toNat), nT (nth 0 c.args (c.scope.length + 1))]
    else c.scope.map nT ++ if 2 < c.kind then [] else [sT 58] ++ rowsK 0 c.rows)) :
    hardQ x.doms c.kind (cs ++ t :: r) = .ok (c, t :: r) := by
  obtain ⟨kind, scope, rows, args⟩ := c
  simp only [hardB, Bool.and_eq_true, decide_eq_true_eq, Bool.not_eq_true', Bool.and_eq_false_iff, decide_eq_false_iff_not] at hb
  obtain ⟨⟨⟨⟨hs, hk1⟩, hk6⟩, hrow⟩, hrest⟩ := hb
  simp only at h ⊢
  obtain ⟨hsk, hne⟩ := scope_ok hs
  have hrows0 : 2 < kind → rows = [] := fun hk => by
    rcases hrow with h1 | h1
    · exact absurd hk h1
    · exact List.eq_nil_of_length_eq_zero (by omega)
  by_cases h6 : kind = 6
  · rw [if_pos h6] at h hrest
    rw [hardQ, if_pos h6, linearQ_c (x := ⟨kind, scope, rows, args⟩) hd.1 hrest hs h ht]
    simp only [hrows0 (by omega)]
  · rw [if_neg h6] at h hrest
    simp only [Bool.and_eq_true, decide_eq_true_eq] at hrest
    have hargs := List.eq_nil_of_length_eq_zero hrest.1
    subst hargs
    obtain ⟨c1, c2, rfl, hc1, hc2⟩ := map_app_er h
    rw [hardQ, if_neg h6]
    by_cases h2 : 2 < kind
    · rw [if_pos h2] at hc2
      obtain rfl := map_nil_er hc2
      have hnn : NoNum (t :: r) := ⟨t, r, rfl, by rw [(er_sign ht).1]; decide⟩
      rw [List.append_nil, scopeQ_c _ hd.1 scope [] c1 _ hc1 (by simpa using hsk) (by simpa using hne) hnn]
      simp only [List.nil_append]
      rw [if_neg (by omega)]
      rw [hrows0 h2]
    · rw [if_neg h2] at hc2
      obtain ⟨u, c3, rfl, hu, hc3⟩ := map_cons_er hc2
      have hnn : NoNum (u :: c3 ++ t :: r) := ⟨u, c3 ++ t :: r, rfl, by rw [(er_sign hu).1]; decide⟩
      rw [List.append_assoc, scopeQ_c _ hd.1 scope [] c1 _ hc1 (by simpa using hsk) (by simpa using hne) hnn]
      simp only [List.nil_append]
      rw [if_pos (by omega), tableQ_c (c := u :: c3) (rows := rows) (by rw [List.map_cons, hu]; exact congrArg _ hc3) hrest.2 (rows_small hd hs hrest.2) ht (List.length_pos_iff.2 hne)]
theorem costsQ_c {doms : List (List Int)} {scope : List Int} : ∀ (rows : List (List Int)) (costs : List Int) (n : Nat) (rs : List (List Int)) (ks : List Int) (c r : List Tok), c.map er = costsK rows costs → rows.length = costs.length → rowsB doms scope (lastO rs) rows = true → (∀ t ∈ rows, Small6 t) → (∀ k ∈ costs, smallB k 1000000000000 = true) → rows.length < n → NoComma r →
    costsQ doms scope n rs ks (c ++ r) = .ok ((rs ++ rows, ks ++ costs), r)
  | rows, costs, 0, rs, ks, c, r, _, _, _, _, _, hn, _ => by omega
  | [], k :: costs, n + 1, rs, ks, c, r, _, hl, _, _, _, _, _ => by simp at hl
  | v :: rows, [], n + 1, rs, ks, c, r, _, hl, _, _, _, _, _ => by simp at hl
  | [], [], n + 1, rs, ks, c, r, h, _, _, _, _, _, hr => by
    simp only [costsK] at h
    obtain rfl := map_nil_er h
    rw [List.nil_append, costsQ, isQ_no hr]
    simp
  | v :: rows, k :: costs, n + 1, rs, ks, c, r, h, hl, hb, hs, hk, hn, hr => by
    rw [costsK] at h
    simp only [List.append_assoc, List.cons_append, List.nil_append] at h
    obtain ⟨t, c1, rfl, ht, h⟩ := map_cons_er h
    obtain ⟨c2, c3, rfl, hc2, h⟩ := map_app_er h
    obtain ⟨u, c4, rfl, hu, h⟩ := map_cons_er h
    rw [rowsB_cons] at hb
    simp only [Bool.and_eq_true, decide_eq_true_eq] at hb
    rw [List.cons_append, List.append_assoc, List.cons_append, costsQ, isQ_yes ht]
    simp only [if_true]
    rw [rowQ_c hc2 hb.1.1.1 hb.1.2 (hs v (List.mem_cons_self ..)) hb.1.1.2]
    simp only
    rw [numberQ_c hu (hk k (List.mem_cons_self ..))]
    simp only [(er_num hu).2]
    have := costsQ_c rows costs n (rs ++ [v]) (ks ++ [k]) c4 r h (by simpa using hl) (by rw [lastO_snoc]; exact hb.2) (fun t ht => hs t (List.mem_cons_of_mem _ ht)) (fun m hm => hk m (List.mem_cons_of_mem _ hm)) (by simp at hn; omega) hr
    simpa using this
theorem costs_small {l : List Int} (h : wideAny l = false) : ∀ k ∈ l, smallB k 1000000000000 = true := by
  intro k hk
  simp only [wideAny, List.any_eq_false] at h
  have := h k hk
  simpa using this
theorem softQ_c {x : Ins} {s : Sft} {cs : List Tok} {r : List Tok} {t : Tok} (hd : DomsOk x.doms) (hb : softB x s = true) (ht : er t = sT 59)
    (h : cs.map er = s.scope.map nT ++ [sT 58, nT s.dflt] ++ costsK s.rows s.costs) : softQ x.doms (cs ++ t :: r) = .ok (s, t :: r) := by
  obtain ⟨scope, rows, costs, dflt⟩ := s
  simp only [softB, Bool.and_eq_true, decide_eq_true_eq, Bool.not_eq_true'] at hb
  obtain ⟨⟨⟨⟨hs, hl⟩, hdf⟩, hw⟩, hrows⟩ := hb
  simp only at h
  obtain ⟨hsk, hne⟩ := scope_ok hs
  rw [List.append_assoc] at h
  obtain ⟨c1, c2, rfl, hc1, h⟩ := map_app_er h
  simp only [List.cons_append, List.nil_append] at h
  obtain ⟨u, c3, rfl, hu, h⟩ := map_cons_er h
  obtain ⟨v, c4, rfl, hv, h⟩ := map_cons_er h
  have hnn : NoNum (u :: v :: c4 ++ t :: r) := ⟨u, v :: c4 ++ t :: r, rfl, by rw [(er_sign hu).1]; decide⟩
  have hlen : rows.length ≤ c4.length := by
    have hrl : ∀ (rows : List (List Int)) (costs : List Int), rows.length = costs.length → rows.length ≤ (costsK rows costs).length := by
      intro rows
      induction rows with
      | nil => intro costs _; simp
      | cons v rows ih => intro costs hl; cases costs with
        | nil => simp at hl
        | cons k costs => have := ih costs (by simpa using hl); rw [costsK]; simp; omega
    have := hrl rows costs hl.symm
    have hl2 : (c4.map er).length = c4.length := by simp
    rw [h] at hl2
    omega
  rw [softQ, List.append_assoc, scopeQ_c _ hd.1 scope [] c1 _ hc1 (by simpa using hsk) (by simpa using hne) hnn]
  simp only [List.cons_append, List.nil_append, signQ_c hu]
  rw [numberQ_c hv hdf]
  simp only [(er_num hv).2]
  rw [costsQ_c rows costs _ [] [] c4 (t :: r) h hl.symm hrows (rows_small hd hs hrows) (costs_small hw) (by simp; omega) ⟨t, r, rfl, isP_other ht (by decide)⟩]
  simp
end Go.Proofs.YtgpgmmkkmoecmaaGreatDoor

/- What is printed of a right instance is read as that instance. -/
namespace Go.Proofs.YtgpgmmkkmoecmaaGreatDoor

/-- A statement of a text. -/
inductive St where
  | dom (d : List Int)
  | hard (c : Con)
  | soft (s : Sft)
def add (x : Ins) : St → Ins
  | .dom d => { x with doms := x.doms ++ [d] }
  | .hard c => { x with hard := x.hard ++ [c] }
  | .soft s => { x with soft := x.soft ++ [s] }
def stK : St → List Tok
  | .dom d => domK d ++ [sT 59]
  | .hard c => hardK c ++ [sT 59]
  | .soft s => softK s ++ [sT 59]
def stP : St → List UInt8
  | .dom d => varT ++ numsP d ++ endT
  | .hard c => hardP c ++ endT
  | .soft s => softP s ++ endT
/-- It may stand behind what is told. -/
def okSt (x : Ins) : St → Prop
  | .dom d => x.doms.length < 40 ∧ domainB d = true
  | .hard c => x.hard.length < 200 ∧ hardB x c = true
  | .soft s => x.soft.length < 200 ∧ softB x s = true
theorem domsOk_add {x : Ins} {st : St} (h : DomsOk x.doms) (hs : okSt x st) : DomsOk (add x st).doms := by
  cases st with
  | dom d =>
    refine ⟨by have := hs.1; simp [add]; omega, fun e he => ?_⟩
    rcases List.mem_append.1 he with he | he
    · exact h.2 e he
    · rw [List.mem_singleton.1 he]; exact hs.2
  | hard c => exact h
  | soft s => exact h
theorem domain_small {d : List Int} (h : domainB d = true) : Small6 d := by
  intro n hn
  obtain ⟨k, hk, rfl⟩ := mem_nth 0 hn
  exact small_of_fit6 (domainB_fits h k hk)
theorem stmtQ_c {x : Ins} {st : St} {c r : List Tok} (hd : DomsOk x.doms) (hs : okSt x st) (h : c.map er = stK st) : stmtQ x (c ++ r) = .ok (add x st, r) := by
  cases st with
  | dom d =>
    obtain ⟨c1, c2, rfl, hc1, hc2⟩ := map_app_er h
    obtain ⟨t, c3, rfl, ht, hc3⟩ := map_cons_er hc1
    obtain ⟨u, c4, rfl, hu, hc4⟩ := map_cons_er hc2
    obtain rfl := map_nil_er hc4
    obtain ⟨hl, hdm⟩ := hs
    have hdm' := hdm
    simp only [domainB, Bool.and_eq_true, decide_eq_true_eq] at hdm'
    have hw := er_word ht
    have hdq := domQ_c d [] c3 (u :: r) hc3 (by simpa using hdm'.1.1.1.2) (by simpa using hdm'.1.1.2) (domain_small hdm) (by intro e; rw [List.nil_append] at e; rw [e] at hdm'; simp at hdm') ⟨u, r, rfl, by rw [(er_sign hu).1]; decide⟩
    rw [List.nil_append] at hdq
    have := ((stmtQ_var (x := x) (t := t) (r := c3 ++ u :: r) (r' := u :: r) (r2 := r) (e := (0, 0)) (u := ()) hw.1 hw.2).2 (by omega)).2 d hdq
    have h2 := this.2 (signQ_c hu)
    simpa [add] using h2
  | hard k =>
    obtain ⟨c1, c2, rfl, hc1, hc2⟩ := map_app_er h
    obtain ⟨t, c3, rfl, ht, hc3⟩ := map_cons_er hc1
    obtain ⟨u, c4, rfl, hu, hc4⟩ := map_cons_er hc2
    obtain rfl := map_nil_er hc4
    obtain ⟨hl, hb⟩ := hs
    have hb' := hb
    simp only [hardB, Bool.and_eq_true, decide_eq_true_eq] at hb'
    have hw := er_word ht
    obtain ⟨w1, w2, w3⟩ := word_at k.kind hb'.1.1.1.2 hb'.1.1.2
    have hq := hardQ_c (r := r) hd hb hu hc3
    have := ((stmtQ_hard (x := x) (t := t) (r := c3 ++ u :: r) (r' := u :: r) (r2 := r) (e := (0, 0)) (u := ()) (kw := k.kind) (by rw [hw.2, w1]) hw.1 (by have := hb'.1.1.1.2; omega) (by rw [hw.2]; exact w2) (by rw [hw.2]; exact w3)).2 (by omega)).2 k hq
    have h2 := this.2 (signQ_c hu)
    simpa [add] using h2
  | soft k =>
    obtain ⟨c1, c2, rfl, hc1, hc2⟩ := map_app_er h
    obtain ⟨t, c3, rfl, ht, hc3⟩ := map_cons_er hc1
    obtain ⟨u, c4, rfl, hu, hc4⟩ := map_cons_er hc2
    obtain rfl := map_nil_er hc4
    obtain ⟨hl, hb⟩ := hs
    have hw := er_word ht
    have hq := softQ_c (r := r) hd hb hu hc3
    have := ((stmtQ_soft (x := x) (t := t) (r := c3 ++ u :: r) (r' := u :: r) (r2 := r) (e := (0, 0)) (u := ()) hw.1 hw.2).2 (by omega)).2 k hq
    have h2 := this.2 (signQ_c hu)
    simpa [add] using h2
/-- A row of statements, each of which may stand behind those ahead. -/
def okAll : Ins → List St → Prop
  | _, [] => True
  | x, st :: r => okSt x st ∧ okAll (add x st) r
theorem stK_head (st : St) : ∃ s q, stK st = wT s :: q := by
  cases st with
  | dom d => exact ⟨_, _, rfl⟩
  | hard c => exact ⟨_, _, rfl⟩
  | soft s => exact ⟨_, _, rfl⟩
theorem stmtsQ_c : ∀ (sts : List St) (n : Nat) (x : Ins) (c : List Tok), DomsOk x.doms → okAll x sts → c.map er = sts.flatMap stK ++ [eT] → sts.length < n → stmtsQ n x c = .ok (sts.foldl add x)
  | sts, 0, x, c, _, _, _, hn => by omega
  | [], n + 1, x, c, _, _, h, _ => by
    obtain ⟨t, c', rfl, ht, _⟩ := map_cons_er h
    rw [stmtsQ_end (er_end ht)]; rfl
  | st :: sts, n + 1, x, c, hd, ho, h, hn => by
    rw [List.flatMap_cons, List.append_assoc] at h
    obtain ⟨c1, c2, rfl, hc1, hc2⟩ := map_app_er h
    have hq := stmtQ_c (r := c2) hd ho.1 hc1
    obtain ⟨s, q, hsq⟩ := stK_head st
    rw [hsq] at hc1
    obtain ⟨t, c3, rfl, ht, _⟩ := map_cons_er hc1
    rw [List.cons_append] at hq ⊢
    rw [stmtsQ_go (by rw [(er_word ht).1]; decide) hq]
    exact stmtsQ_c sts n _ c2 (domsOk_add hd ho.1) ho.2 hc2 (by simp at hn; omega)

/-! ### The statements of an instance -/
def stsOf (x : Ins) : List St := x.doms.map .dom ++ (x.hard.map .hard ++ x.soft.map .soft)
theorem okAll_append : ∀ (a b : List St) (x : Ins), okAll x (a ++ b) ↔ okAll x a ∧ okAll (a.foldl add x) b
  | [], b, x => by simp [okAll]
  | st :: a, b, x => by
    rw [List.cons_append, okAll, okAll, okAll_append a b (add x st), List.foldl_cons]
    exact ⟨fun h => ⟨⟨h.1, h.2.1⟩, h.2.2⟩, fun h => ⟨h.1.1, h.1.2, h.2⟩⟩
theorem add_doms : ∀ (l : List (List Int)) (x : Ins), (l.map St.dom).foldl add x = { x with doms := x.doms ++ l }
  | [], x => by simp
  | d :: l, x => by rw [List.map_cons, List.foldl_cons, add_doms l]; simp [add]
theorem add_hards : ∀ (l : List Con) (x : Ins), (l.map St.hard).foldl add x = { x with hard := x.hard ++ l }
  | [], x => by simp
  | d :: l, x => by rw [List.map_cons, List.foldl_cons, add_hards l]; simp [add]
theorem add_softs : ∀ (l : List Sft) (x : Ins), (l.map St.soft).foldl add x = { x with soft := x.soft ++ l }
  | [], x => by simp
  | d :: l, x => by rw [List.map_cons, List.foldl_cons, add_softs l]; simp [add]
theorem ok_doms : ∀ (l : List (List Int)) (x : Ins), x.doms.length + l.length ≤ 40 → (∀ d ∈ l, domainB d = true) → okAll x (l.map St.dom)
  | [], x, _, _ => trivial
  | d :: l, x, hl, h => by
    simp only [List.length_cons] at hl
    exact ⟨⟨by omega, h d (List.mem_cons_self ..)⟩, ok_doms l _ (by simp [add]; omega) (fun e he => h e (List.mem_cons_of_mem _ he))⟩
/-- What a constraint may be hangs on the domains alone. -/
theorem hardB_doms {x y : Ins} (h : x.doms = y.doms) (c : Con) : hardB x c = hardB y c := by simp [hardB, h]
theorem softB_doms {x y : Ins} (h : x.doms = y.doms) (s : Sft) : softB x s = softB y s := by simp [softB, h]
theorem ok_hards : ∀ (l : List Con) (x : Ins), x.hard.length + l.length ≤ 200 → (∀ c ∈ l, hardB x c = true) → okAll x (l.map St.hard)
  | [], x, _, _ => trivial
  | d :: l, x, hl, h => by
    simp only [List.length_cons] at hl
    refine ⟨⟨by omega, h d (List.mem_cons_self ..)⟩, ok_hards l _ (by simp [add]; omega) (fun e he => ?_)⟩
    rw [hardB_doms (x := add x (St.hard d)) (y := x) rfl]
    exact h e (List.mem_cons_of_mem _ he)
theorem ok_softs : ∀ (l : List Sft) (x : Ins), x.soft.length + l.length ≤ 200 → (∀ c ∈ l, softB x c = true) → okAll x (l.map St.soft)
  | [], x, _, _ => trivial
  | d :: l, x, hl, h => by
    simp only [List.length_cons] at hl
    refine ⟨⟨by omega, h d (List.mem_cons_self ..)⟩, ok_softs l _ (by simp [add]; omega) (fun e he => ?_)⟩
    rw [softB_doms (x := add x (St.soft d)) (y := x) rfl]
    exact h e (List.mem_cons_of_mem _ he)
theorem right_parts {x : Ins} (h : rightB x = true) : DomsOk x.doms ∧ x.hard.length ≤ 200 ∧ x.soft.length ≤ 200 ∧ (∀ c ∈ x.hard, hardB x c = true) ∧ (∀ s ∈ x.soft, softB x s = true) := by
  simp only [rightB, Bool.and_eq_true, decide_eq_true_eq, List.all_eq_true] at h
  exact ⟨⟨h.1.1.1.1.1, h.1.1.2⟩, h.1.1.1.1.2, h.1.1.1.2, h.1.2, h.2⟩
theorem ok_of {x : Ins} (h : rightB x = true) : okAll ⟨[], [], []⟩ (stsOf x) ∧ (stsOf x).foldl add ⟨[], [], []⟩ = x := by
  obtain ⟨hd, h1, h2, h3, h4⟩ := right_parts h
  unfold stsOf
  refine ⟨?_, ?_⟩
  · rw [okAll_append, okAll_append, add_doms, add_hards]
    refine ⟨ok_doms _ _ (by simpa using hd.1) hd.2, ok_hards _ _ (by simpa using h1) (fun c hc => ?_), ok_softs _ _ (by simpa using h2) (fun c hc => ?_)⟩
    · rw [hardB_doms (y := x) (by simp)]; exact h3 c hc
    · rw [softB_doms (y := x) (by simp)]; exact h4 c hc
  · rw [List.foldl_append, List.foldl_append, add_doms, add_hards, add_softs]
    simp

/-! ### Its text -/
/-- The numbers of a statement fit, and its word is there. -/
def fitSt : St → Prop
  | .dom d => Fits d
  | .hard c => 1 ≤ c.kind ∧ c.kind ≤ 6 ∧ Fits c.scope ∧ Fits c.args ∧ (∀ t ∈ c.rows, Fits t) ∧ (c.kind = 6 → c.args.length = c.scope.length + 2 ∧ 0 ≤ nth 0 c.args c.scope.length ∧ nth 0 c.args c.scope.length ≤ 2)
  | .soft s => Fits s.scope ∧ Fit s.dflt ∧ (∀ t ∈ s.rows, Fits t) ∧ Fits s.costs
theorem Scan.end_ {r : List UInt8} {us : List Tok} (h : Scan r us) : Scan (endT ++ r) (sT 59 :: us) ∧ Brk (endT ++ r) :=
  ⟨Scan.sign (c := 59) (by decide) (Scan.blank (c := 10) (by decide) h), Brk.cons (by decide)⟩
theorem words_letters (k : Int) (h1 : 1 ≤ k) (h6 : k ≤ 6) : nth [] wordsT k.toNat ≠ [] ∧ ∀ c ∈ nth [] wordsT k.toNat, isLetter c = true := by
  have : k = 1 ∨ k = 2 ∨ k = 3 ∨ k = 4 ∨ k = 5 ∨ k = 6 := by omega
  rcases this with rfl | rfl | rfl | rfl | rfl | rfl <;> exact ⟨by decide, by decide⟩
theorem hows_letters (k : Int) (h1 : 0 ≤ k) (h6 : k ≤ 2) : nth [] howsT k.toNat ≠ [] ∧ ∀ c ∈ nth [] howsT k.toNat, isLetter c = true := by
  have : k = 0 ∨ k = 1 ∨ k = 2 := by omega
  rcases this with rfl | rfl | rfl <;> exact ⟨by decide, by decide⟩
theorem Scan.one {n : Int} {r : List UInt8} {us : List Tok} (hn : Fit n) (hr : Brk r) (h : Scan r us) : Scan (numsP [n] ++ r) (nT n :: us) ∧ Brk (numsP [n] ++ r) :=
  Scan.nums (l := [n]) (fun k hk => by
    have : k = 0 := by simpa using hk
    subst this; exact hn) hr h
theorem Scan.st {st : St} {r : List UInt8} {us : List Tok} (hf : fitSt st) (h : Scan r us) : Scan (stP st ++ r) (stK st ++ us) := by
  have he := Scan.end_ h
  cases st with
  | dom d =>
    have h1 := Scan.nums (l := d) hf he.2 he.1
    have h2 := Scan.word (w := varT) (by decide) (by decide) h1.2 h1.1
    simpa [stP, stK, domK] using h2
  | hard c =>
    obtain ⟨k1, k6, fs, fa, fr, f6⟩ := hf
    obtain ⟨w1, w2⟩ := words_letters c.kind k1 k6
    by_cases hk : c.kind = 6
    · obtain ⟨g1, g2, g3⟩ := f6 hk
      obtain ⟨v1, v2⟩ := hows_letters _ g2 g3
      have h1 := Scan.one (n := nth 0 c.args (c.scope.length + 1)) (fa _ (by omega)) he.2 he.1
      have h2 := Scan.word v1 v2 h1.2 h1.1
      have h3 := Scan.sign (c := 58) (by decide) (Scan.blank (c := 32) (by decide) h2)
      have h4 := Scan.lin (i := 0) fa fs (Brk.cons (c := 58) (by decide)) h3
      have h5 := Scan.word w1 w2 h4.2 h4.1
      simp only [stP, stK, hardP, hardK, if_pos hk]
      simpa using h5
    · by_cases h2 : 2 < c.kind
      · have h1 := Scan.nums fs he.2 he.1
        have h5 := Scan.word w1 w2 h1.2 h1.1
        simp only [stP, stK, hardP, hardK, if_neg hk, if_pos h2]
        simpa using h5
      · have h1 := Scan.rows (i := 0) fr he.2 he.1
        have h3 := Scan.sign (c := 58) (by decide) h1.1
        have h4 := Scan.nums fs (Brk.cons (c := 58) (by decide)) h3
        have h5 := Scan.word w1 w2 h4.2 h4.1
        simp only [stP, stK, hardP, hardK, if_neg hk, if_neg h2]
        simpa using h5
  | soft s =>
    obtain ⟨fs, fd, fr, fc⟩ := hf
    have h1 := Scan.costs fr fc he.2 he.1
    have h2 := Scan.one fd h1.2 h1.1
    have h3 := Scan.sign (c := 58) (by decide) h2.1
    have h4 := Scan.nums fs (Brk.cons (c := 58) (by decide)) h3
    have h5 := Scan.word (w := softT) (by decide) (by decide) h4.2 h4.1
    simpa [stP, stK, softP, softK] using h5
theorem Scan.sts : ∀ {sts : List St}, (∀ st ∈ sts, fitSt st) → Scan (sts.flatMap stP) (sts.flatMap stK ++ [eT])
  | [], _ => Scan.nil
  | st :: sts, h => by
    rw [List.flatMap_cons, List.flatMap_cons, List.append_assoc]
    exact Scan.st (h st (List.mem_cons_self ..)) (Scan.sts (fun s hs => h s (List.mem_cons_of_mem _ hs)))
theorem fits_of_small {l : List Int} (h : Small6 l) : Fits l := fun k hk => by
  have := small_bounds (h _ (nth_mem 0 hk))
  exact ⟨by omega, by omega⟩
theorem fit_of_ok {x : Ins} {st : St} (hd : DomsOk x.doms) (h : okSt x st) : fitSt st := by
  cases st with
  | dom d => exact fits_of_small (domain_small h.2)
  | hard c =>
    obtain ⟨_, hb⟩ := h
    simp only [hardB, Bool.and_eq_true, decide_eq_true_eq, Bool.not_eq_true', Bool.and_eq_false_iff, decide_eq_false_iff_not] at hb
    obtain ⟨⟨⟨⟨hs, hk1⟩, hk6⟩, hrow⟩, hrest⟩ := hb
    by_cases h6 : c.kind = 6
    · rw [if_pos h6] at hrest
      simp only [linearB, Bool.and_eq_true, decide_eq_true_eq] at hrest
      have hr : c.rows = [] := by
        rcases hrow with h1 | h1
        · omega
        · exact List.eq_nil_of_length_eq_zero (by omega)
      refine ⟨hk1, hk6, scope_fits hd.1 hs, fun k hk => (argsB_fits _ _ _ hrest.2 k hk).fit, ?_, fun _ => ⟨hrest.1.1.1, hrest.1.1.2, hrest.1.2⟩⟩
      rw [hr]; intro t ht; simp at ht
    · rw [if_neg h6] at hrest
      simp only [Bool.and_eq_true, decide_eq_true_eq] at hrest
      refine ⟨hk1, hk6, scope_fits hd.1 hs, ?_, fun t ht => fits_of_small (rows_small hd hs hrest.2 t ht), fun h => absurd h h6⟩
      rw [List.eq_nil_of_length_eq_zero hrest.1]
      intro k hk; simp at hk
  | soft s =>
    obtain ⟨_, hb⟩ := h
    simp only [softB, Bool.and_eq_true, decide_eq_true_eq, Bool.not_eq_true'] at hb
    obtain ⟨⟨⟨⟨hs, hl⟩, hdf⟩, hw⟩, hrows⟩ := hb
    have := small_bounds hdf
    exact ⟨scope_fits hd.1 hs, ⟨by omega, by omega⟩, fun t ht => fits_of_small (rows_small hd hs hrows t ht), wideAny_fits hw⟩
theorem fit_all : ∀ (sts : List St) (x : Ins), DomsOk x.doms → okAll x sts → ∀ st ∈ sts, fitSt st
  | [], _, _, _, st, h => by simp at h
  | s :: sts, x, hd, ho, st, h => by
    rcases List.mem_cons.1 h with rfl | h
    · exact fit_of_ok hd ho.1
    · exact fit_all sts _ (domsOk_add hd ho.1) ho.2 st h
theorem print_sts {x : Ins} (h : rightB x = true) : printP x = (stsOf x).flatMap stP := by
  rw [printP, if_pos h]
  unfold stsOf
  rw [List.flatMap_append, List.flatMap_append, List.flatMap_map, List.flatMap_map, List.flatMap_map, List.append_assoc]
  rfl
theorem domsOk_nil : DomsOk [] := ⟨by simp, fun d h => by simp at h⟩
theorem stK_len (sts : List St) : sts.length ≤ (sts.flatMap stK).length := by
  induction sts with
  | nil => simp
  | cons st sts ih =>
    obtain ⟨s, q, hq⟩ := stK_head st
    rw [List.flatMap_cons, List.length_append, hq, List.length_cons, List.length_cons]
    omega
/-- Statements that may stand, printed, are read as what they tell. -/
theorem parse_sts {sts : List St} (h : okAll ⟨[], [], []⟩ sts) (hl : (sts.flatMap stP).length ≤ 100000) : parseP (sts.flatMap stP) = .ok (sts.foldl add ⟨[], [], []⟩) := by
  obtain ⟨ts, h1, h2⟩ := Scan.sts (fit_all sts _ domsOk_nil h) 0
  have ha : allP (sts.flatMap stP) = .ok ts := by
    rw [allP, if_neg (by omega)]
    exact h1
  simp only [parseP, ha]
  refine stmtsQ_c sts _ _ ts domsOk_nil h h2 ?_
  have hlen : (ts.map er).length = ts.length := by simp
  rw [h2, List.length_append, List.length_singleton] at hlen
  have := stK_len sts
  omega
theorem parse_print {x : Ins} (h : rightB x = true) (hl : (printP x).length ≤ 100000) : parseP (printP x) = .ok x := by
  obtain ⟨h1, h2⟩ := ok_of h
  rw [print_sts h] at hl ⊢
  rw [parse_sts h1 hl, h2]
end Go.Proofs.YtgpgmmkkmoecmaaGreatDoor

/- What the parser tells is right, and what it has read is just that: the tokens of it. -/
namespace Go.Proofs.YtgpgmmkkmoecmaaGreatDoor

def TokOk (t : Tok) : Prop := er t = nT t.n ∨ (er t = wT t.text ∧ t.text ≠ [] ∧ ∀ c ∈ t.text, isLetter c = true) ∨ (∃ c, er t = sT c ∧ (c = 58 ∨ c = 44 ∨ c = 59)) ∨ er t = eT
def AllOk (ts : List Tok) : Prop := ∀ t ∈ ts, TokOk t
theorem AllOk.tail {t : Tok} {r : List Tok} (h : AllOk (t :: r)) : AllOk r := fun u hu => h u (List.mem_cons_of_mem _ hu)
theorem AllOk.right {a b : List Tok} (h : AllOk (a ++ b)) : AllOk b := fun u hu => h u (List.mem_append_right _ hu)
theorem ok_num {t : Tok} (h : TokOk t) (hk : t.kind = 2) : er t = nT t.n := by
  rcases h with h | ⟨h, _⟩ | ⟨c, h, _⟩ | h
  · exact h
  · have := (er_word h).1; omega
  · have := (er_sign h).1; omega
  · have := er_end h; omega
theorem ok_word {t : Tok} (h : TokOk t) (hk : t.kind = 1) : er t = wT t.text := by
  rcases h with h | ⟨h, _⟩ | ⟨c, h, _⟩ | h
  · have := (er_num h).1; omega
  · exact h
  · have := (er_sign h).1; omega
  · have := er_end h; omega
theorem ok_sign {t : Tok} {c : UInt8} (h : TokOk t) (hc : isLetter c = false) (hp : isP t [c] = true) : er t = sT c := by
  simp only [isP, Bool.and_eq_true, Bool.or_eq_true, beq_iff_eq, decide_eq_true_eq] at hp
  obtain ⟨hk, ht⟩ := hp
  rcases h with h | ⟨h, _, hl⟩ | ⟨d, h, _⟩ | h
  · have := (er_num h).1; omega
  · rw [ht] at hl
    have := hl c (by simp)
    rw [hc] at this; cases this
  · have := (er_sign h).2
    rw [ht] at this
    injection this with this
    rw [this]; exact h
  · have := er_end h; omega
theorem numberQ_s {m : Int} {ts r : List Tok} {t : Tok} (h : numberQ m ts = .ok (t, r)) : ts = t :: r ∧ t.kind = 2 ∧ smallB t.n m = true := by
  cases ts with
  | nil => cases h
  | cons u q =>
    rw [numberQ] at h
    split at h
    · rename_i hk
      split at h
      · rename_i hs
        injection h with h
        injection h with h1 h2
        subst h1 h2
        exact ⟨rfl, by simpa using hk, hs⟩
      · cases h
    · cases h
theorem signQ_s {c : UInt8} {ts r : List Tok} {u : Unit} (hc : isLetter c = false) (ha : AllOk ts) (h : signQ [c] ts = .ok (u, r)) : ∃ t, ts = t :: r ∧ er t = sT c := by
  cases ts with
  | nil => cases h
  | cons t q =>
    rw [signQ] at h
    split at h
    · rename_i hp
      injection h with h
      injection h with _ h
      subst h
      exact ⟨t, rfl, ok_sign (ha t (List.mem_cons_self ..)) hc hp⟩
    · cases h
theorem valsQ_s (doms : List (List Int)) : ∀ (scope v : List Int) (ts r : List Tok), AllOk ts → valsQ doms scope ts = .ok (v, r) → ∃ c, ts = c ++ r ∧ c.map er = v.map nT ∧ v.length = scope.length ∧ inDoms doms scope v = true
  | [], v, ts, r, _, h => by
    injection h with h
    injection h with h1 h2
    subst h1 h2
    exact ⟨[], rfl, rfl, rfl, rfl⟩
  | s :: ss, v, ts, r, ha, h => by
    rw [valsQ] at h
    split at h
    · cases h
    · rename_i t q hn
      obtain ⟨rfl, hk, _⟩ := numberQ_s hn
      split at h
      · rename_i hin
        split at h
        · cases h
        · rename_i ns r' hv
          injection h with h
          injection h with h1 h2
          subst h1 h2
          obtain ⟨c, rfl, hc, hl, hi⟩ := valsQ_s doms ss ns q _ ha.tail hv
          refine ⟨t :: c, rfl, ?_, by simp [hl], ?_⟩
          · rw [List.map_cons, List.map_cons, hc, ok_num (ha t (List.mem_cons_self ..)) hk]
          · simp only [inDoms, Bool.and_eq_true, decide_eq_true_eq]
            exact ⟨hin, hi⟩
      · cases h
theorem rowQ_s {doms : List (List Int)} {scope : List Int} {ahead rows : List (List Int)} {ts r : List Tok} (ha : AllOk ts) (h : rowQ doms scope ahead ts = .ok (rows, r)) :
    ∃ v c, rows = ahead ++ [v] ∧ ts = c ++ r ∧ c.map er = v.map nT ∧ v.length = scope.length ∧ inDoms doms scope v = true ∧ (match lastO ahead with | none => true | some p => decide (cmpL p v < 0)) = true := by
  rw [rowQ] at h
  split at h
  · cases h
  · rename_i v q hv
    obtain ⟨c, rfl, hc, hl, hi⟩ := valsQ_s doms scope v ts q ha hv
    split at h
    · rename_i hlt
      injection h with h
      injection h with h1 h2
      subst h1 h2
      refine ⟨v, c, rfl, rfl, hc, hl, hi, ?_⟩
      unfold lastO
      by_cases hz : ahead.length = 0
      · rw [if_pos hz]
      · rw [if_neg hz]
        rcases hlt with hlt | hlt
        · exact absurd hlt hz
        · exact decide_eq_true hlt
    · cases h
theorem isQ_s {c : UInt8} {ts : List Tok} (hc : isLetter c = false) (ha : AllOk ts) : (isQ [c] ts).1 = true → ∃ t q, ts = t :: q ∧ er t = sT c ∧ (isQ [c] ts).2 = q := by
  intro h
  cases ts with
  | nil => simp [isQ] at h
  | cons t q =>
    simp only [isQ] at h ⊢
    rw [if_pos h]
    exact ⟨t, q, rfl, ok_sign (ha t (List.mem_cons_self ..)) hc h, rfl⟩
theorem isQ_not {s : List UInt8} {ts : List Tok} : ¬ (isQ s ts).1 = true → (isQ s ts).2 = ts := by
  intro h
  cases ts with
  | nil => rfl
  | cons t q =>
    simp only [isQ] at h ⊢
    rw [if_neg h]
theorem rowsQ_s (doms : List (List Int)) (scope : List Int) : ∀ (n : Nat) (ahead rows : List (List Int)) (ts r : List Tok), AllOk ts → rowsQ doms scope n ahead ts = .ok (rows, r) →
    ∃ v rest c, rows = ahead ++ v :: rest ∧ ts = c ++ r ∧ c.map er = v.map nT ++ rowsK 1 rest ∧ rowsB doms scope (lastO ahead) (v :: rest) = true
  | 0, _, _, _, _, _, h => by cases h
  | n + 1, ahead, rows, ts, r, ha, h => by
    rw [rowsQ] at h
    split at h
    · cases h
    · rename_i rows1 q hq
      obtain ⟨v, c, rfl, rfl, hc, hl, hi, hlt⟩ := rowQ_s ha hq
      split at h
      · rename_i hcm
        obtain ⟨t, q', rfl, ht, hq2⟩ := isQ_s (by decide) ha.right hcm
        rw [hq2] at h
        obtain ⟨w, rest, c2, h1, rfl, hc2, hb⟩ := rowsQ_s doms scope n _ _ q' r ha.right.tail h
        refine ⟨v, w :: rest, c ++ t :: c2, by rw [h1]; simp, by simp, ?_, ?_⟩
        · rw [List.map_append, List.map_cons, hc, ht, hc2, rowsK, if_pos (by omega), rowsK_pos rest (1 + 1) 1 (by omega) (by omega)]
          simp
        · rw [rowsB_cons]
          simp only [Bool.and_eq_true, decide_eq_true_eq]
          rw [lastO_snoc] at hb
          exact ⟨⟨⟨hl, hlt⟩, hi⟩, hb⟩
      · injection h with h
        injection h with h1 h2
        subst h1 h2
        refine ⟨v, [], c, rfl, rfl, by rw [hc]; simp [rowsK], ?_⟩
        rw [rowsB_cons]
        simp only [Bool.and_eq_true, decide_eq_true_eq]
        exact ⟨⟨⟨hl, hlt⟩, hi⟩, rfl⟩
theorem tableQ_s {doms : List (List Int)} {scope : List Int} {rows : List (List Int)} {ts r : List Tok} (ha : AllOk ts) (h : tableQ doms scope ts = .ok (rows, r)) :
    ∃ c, ts = c ++ r ∧ c.map er = sT 58 :: rowsK 0 rows ∧ rowsB doms scope none rows = true := by
  rw [tableQ] at h
  split at h
  · cases h
  · rename_i u q hs
    obtain ⟨t, rfl, ht⟩ := signQ_s (by decide) ha hs
    simp only at h
    split at h
    · injection h with h
      injection h with h1 h2
      subst h1 h2
      exact ⟨[t], rfl, by rw [List.map_singleton, ht]; rfl, rfl⟩
    · obtain ⟨v, rest, c, h1, rfl, hc, hb⟩ := rowsQ_s doms scope _ _ _ q r ha.tail h
      rw [List.nil_append] at h1
      subst h1
      refine ⟨t :: c, rfl, ?_, hb⟩
      rw [List.map_cons, ht, hc, rowsK, if_neg (by omega), List.nil_append]
theorem rising_snoc : ∀ (l : List Int) (n : Int), risingB l = true → (l.length = 0 ∨ lastI l < n) → risingB (l ++ [n]) = true
  | [], n, _, _ => rfl
  | [a], n, _, h => by
    rcases h with h | h
    · simp at h
    · have : lastI [a] = a := rfl
      rw [this] at h
      simp [risingB, h]
  | a :: b :: l, n, hr, h => by
    rw [risingB] at hr
    simp only [Bool.and_eq_true, decide_eq_true_eq] at hr
    have := rising_snoc (b :: l) n hr.2 (by
      rcases h with h | h
      · simp at h
      · exact .inr (by simpa [lastI, nth, List.getD_eq_getElem?_getD] using h))
    rw [List.cons_append, List.cons_append, risingB]
    simp only [Bool.and_eq_true, decide_eq_true_eq]
    exact ⟨hr.1, this⟩
theorem varQ_s {nd : Nat} {l l' : List Int} {ts r : List Tok} (ha : AllOk ts) (h : varQ nd l ts = .ok (l', r)) (hk : ScopeOk nd l) : ∃ t, ts = t :: r ∧ er t = nT t.n ∧ l' = l ++ [t.n] ∧ ScopeOk nd (l ++ [t.n]) := by
  cases ts with
  | nil => cases h
  | cons t q =>
    rw [varQ] at h
    split at h
    · cases h
    · rename_i hn
      obtain ⟨_, hk2, _⟩ := numberQ_s hn
      split at h
      · cases h
      · rename_i h6
        split at h
        · rename_i hc
          injection h with h
          injection h with h1 h2
          subst h1 h2
          refine ⟨t, rfl, ok_num (ha t (List.mem_cons_self ..)) (by injection (numberQ_s hn).1 with e; rw [e]; exact hk2), rfl, by simp; omega, rising_snoc l t.n hk.2.1 hc.2.2, fun v hv => ?_⟩
          rcases List.mem_append.1 hv with hv | hv
          · exact hk.2.2 v hv
          · rw [List.mem_singleton.1 hv]; exact ⟨hc.1, hc.2.1⟩
        · cases h
theorem scopeQ_s (nd : Nat) : ∀ (ts : List Tok) (acc l' : List Int) (r : List Tok), AllOk ts → ScopeOk nd acc → scopeQ nd ts acc = .ok (l', r) → ∃ l c, l' = acc ++ l ∧ ts = c ++ r ∧ c.map er = l.map nT ∧ ScopeOk nd (acc ++ l) ∧ acc ++ l ≠ []
  | [], acc, l', r, _, _, h => by cases h
  | t :: ts, acc, l', r, ha, hk, h => by
    rw [scopeQ] at h
    split at h
    · rename_i h0
      injection h with h
      injection h with h1 h2
      subst h1 h2
      exact ⟨[], [], by simp, rfl, rfl, by simpa using hk, by intro e; rw [List.append_nil] at e; rw [e] at h0; simp at h0⟩
    · split at h
      · cases h
      · rename_i l1 q hv
        obtain ⟨u, hu, he, rfl, hk'⟩ := varQ_s ha hv hk
        injection hu with hu1 hu2
        subst hu1
        obtain ⟨l, c, h1, rfl, hc, hk2, _⟩ := scopeQ_s nd ts _ l' r ha.tail hk' h
        refine ⟨t.n :: l, t :: c, by rw [h1]; simp, rfl, by rw [List.map_cons, List.map_cons, he, hc], by simpa using hk2, by simp⟩
theorem scope_of_ok {nd : Nat} {l : List Int} (h : ScopeOk nd l) (hn : l ≠ []) : scopeB nd l = true := by
  have hp := List.length_pos_iff.2 hn
  simp only [scopeB, Bool.and_eq_true, decide_eq_true_eq]
  exact ⟨⟨⟨⟨hp, h.1⟩, h.2.1⟩, (h.2.2 _ (nth_mem 0 hp)).1⟩, (h.2.2 _ (nth_mem 0 (show l.length - 1 < l.length by omega))).2⟩
theorem domQ_s : ∀ (ts : List Tok) (acc l' : List Int) (r : List Tok), AllOk ts → acc.length ≤ 16 → risingB acc = true → Small6 acc → domQ ts acc = .ok (l', r) → ∃ l c, l' = acc ++ l ∧ ts = c ++ r ∧ c.map er = l.map nT ∧ domainB (acc ++ l) = true
  | [], acc, l', r, _, _, _, _, h => by cases h
  | t :: ts, acc, l', r, ha, hl, hri, hs, h => by
    rw [domQ] at h
    split at h
    · rename_i h0
      injection h with h
      injection h with h1 h2
      subst h1 h2
      refine ⟨[], [], by simp, rfl, rfl, ?_⟩
      have hp : 0 < acc.length := by omega
      rw [List.append_nil]
      simp only [domainB, Bool.and_eq_true, decide_eq_true_eq]
      exact ⟨⟨⟨⟨hp, hl⟩, hri⟩, hs _ (nth_mem 0 hp)⟩, hs _ (nth_mem 0 (show acc.length - 1 < acc.length by omega))⟩
    · split at h
      · cases h
      · rename_i p hn
        obtain ⟨hn1, hk, hsm⟩ := numberQ_s (t := p.1) (r := p.2) hn
        injection hn1 with e1 e2
        rw [← e1] at hk hsm
        split at h
        · cases h
        · rename_i h16
          split at h
          · cases h
          · rename_i hlt
            obtain ⟨l, c, h1, rfl, hc, hb⟩ := domQ_s ts (acc ++ [t.n]) l' r ha.tail (by simp; omega) (rising_snoc acc t.n hri (by
              by_cases hz : acc.length = 0
              · exact .inl hz
              · exact .inr (by
                  have : ¬ t.n ≤ lastI acc := fun hx => hlt ⟨hz, hx⟩
                  omega))) (fun n hn => by
              rcases List.mem_append.1 hn with hn | hn
              · exact hs n hn
              · rw [List.mem_singleton.1 hn]; exact hsm) h
            exact ⟨t.n :: l, t :: c, by rw [h1]; simp, rfl, by rw [List.map_cons, List.map_cons, hc, ok_num (ha t (List.mem_cons_self ..)) hk], by simpa using hb⟩
end Go.Proofs.YtgpgmmkkmoecmaaGreatDoor

/- What the parser tells is right (statements, texts). -/
namespace Go.Proofs.YtgpgmmkkmoecmaaGreatDoor

theorem termsQ_s (nd : Nat) : ∀ (n : Nat) (args scope a' s' : List Int) (ts r : List Tok), AllOk ts → ScopeOk nd scope → termsQ nd n args scope ts = .ok ((a', s'), r) →
    ∃ a v aa vs c, a' = args ++ a :: aa ∧ s' = scope ++ v :: vs ∧ aa.length = vs.length ∧ ts = c ++ r ∧ c.map er = [nT a, nT v] ++ linK 1 aa vs ∧ (∀ b ∈ a :: aa, b ≠ 0 ∧ smallB b 1000000 = true) ∧ ScopeOk nd (scope ++ v :: vs)
  | 0, _, _, _, _, _, _, _, _, h => by cases h
  | n + 1, args, scope, a', s', ts, r, ha, hk, h => by
    rw [termsQ] at h
    split at h
    · cases h
    · rename_i t q hn
      obtain ⟨rfl, hk2, hsm⟩ := numberQ_s hn
      have ht := ok_num (ha t (List.mem_cons_self ..)) hk2
      split at h
      · cases h
      · rename_i h0
        split at h
        · cases h
        · rename_i sc q2 hv
          obtain ⟨u, rfl, hu, rfl, hk3⟩ := varQ_s ha.tail hv hk
          split at h
          · rename_i hcm
            obtain ⟨m, q3, rfl, hm, hq3⟩ := isQ_s (by decide) ha.tail.tail hcm
            rw [hq3] at h
            obtain ⟨b, w, aa, vs, c, h1, h2, hl, rfl, hc, hb, hk4⟩ := termsQ_s nd n _ _ a' s' q3 r ha.tail.tail.tail hk3 h
            refine ⟨t.n, u.n, b :: aa, w :: vs, t :: u :: m :: c, by rw [h1]; simp, by rw [h2]; simp, by simp [hl], rfl, ?_, ?_, by simpa using hk4⟩
            · simp only [List.map_cons]
              rw [ht, hu, hm, hc, linK, if_pos (by omega), linK_pos aa vs (1 + 1) 1 (by omega) (by omega)]
              simp
            · intro d hd
              rcases List.mem_cons.1 hd with rfl | hd
              · exact ⟨h0, hsm⟩
              · exact hb d hd
          · injection h with h
            injection h with h1 h2
            injection h1 with h1 h3
            subst h1 h2 h3
            refine ⟨t.n, u.n, [], [], [t, u], rfl, rfl, rfl, rfl, by simp [linK, ht, hu], ?_, hk3⟩
            intro d hd
            rw [List.mem_singleton.1 hd]
            exact ⟨h0, hsm⟩
theorem wordFrom_s (s : List UInt8) : ∀ (ws : List (List UInt8)) (i : Nat), 0 ≤ wordFrom s i ws → ∃ k : Nat, wordFrom s i ws = ((i + k : Nat) : Int) ∧ k < ws.length ∧ nth [] ws k = s
  | [], i, h => by simp [wordFrom] at h
  | a :: r, i, h => by
    rw [wordFrom] at h ⊢
    split at h
    · rename_i he
      rw [if_pos he]
      exact ⟨0, rfl, by simp, he⟩
    · rename_i he
      rw [if_neg he]
      obtain ⟨k, h1, h2, h3⟩ := wordFrom_s s r (i + 1) h
      exact ⟨k + 1, by rw [h1]; congr 1; omega, by simp; omega, h3⟩
theorem args_mk (n : Nat) : ∀ (l : List Int) (i : Nat), (∀ k, k < l.length → (i + k < n → nth 0 l k ≠ 0) ∧ smallB (nth 0 l k) 1000000 = true) → argsB n i l = true
  | [], i, _ => rfl
  | a :: l, i, h => by
    have h0 := h 0 (by simp)
    have ha : nth 0 (a :: l) 0 = a := rfl
    rw [ha] at h0
    simp only [argsB, Bool.and_eq_true, Bool.not_eq_true', Bool.and_eq_false_iff, decide_eq_false_iff_not]
    refine ⟨⟨?_, h0.2⟩, args_mk n l (i + 1) fun k hk => ?_⟩
    · by_cases hi : i < n
      · exact .inr (h0.1 hi)
      · exact .inl hi
    · have := h (k + 1) (by simp; omega)
      exact ⟨fun hi => this.1 (by omega), this.2⟩
theorem linearQ_s {nd : Nat} {ts r : List Tok} {args scope : List Int} (ha : AllOk ts) (h : linearQ nd ts = .ok ((args, scope), r)) :
    scopeB nd scope = true ∧ (∀ k rows, linearB ⟨k, scope, rows, args⟩ = true) ∧ ∃ c, ts = c ++ r ∧ c.map er = linK 0 args scope ++ [sT 58, wT (nth [] howsT (nth 0 args scope.length).toNat), nT (nth 0 args (scope.length + 1))] := by
  rw [linearQ] at h
  split at h
  · cases h
  · rename_i a0 s0 q hq
    obtain ⟨a, v, aa, vs, c, rfl, rfl, hl, rfl, hc, hb, hk⟩ := termsQ_s nd _ _ _ _ _ _ _ ha ⟨by simp, rfl, by simp⟩ hq
    simp only [List.nil_append] at h hk
    split at h
    · cases h
    · rename_i u q1 hs
      obtain ⟨t, rfl, ht⟩ := signQ_s (by decide) ha.right hs
      split at h
      · rename_i hh
        split at h
        · cases h
        · rename_i w q2 hn
          injection h with h
          injection h with h1 h2
          injection h1 with h1 h3
          subst h2 h3
          cases q1 with
          | nil => cases hn
          | cons hw q3 =>
            have hk4 : ¬ hw.kind = 4 := by have : hw.kind = 1 := hh.1; omega
            simp only [nextQ, if_neg hk4] at hh hn h1
            obtain ⟨rfl, hk2, hsm⟩ := numberQ_s hn
            obtain ⟨k, e1, e2, e3⟩ := wordFrom_s hw.text howsT 0 hh.2
            rw [e1, Nat.zero_add] at h1
            subst h1
            have hk3 : k < 3 := e2
            have hal : (a :: aa).length = (v :: vs).length := by simp [hl]
            have n0 : nth 0 (a :: aa ++ [(k : Int), w.n]) (v :: vs).length = k := by rw [← hal]; exact nth_len 0 (a :: aa) (k : Int) [w.n]
            have n1 : nth 0 (a :: aa ++ [(k : Int), w.n]) ((v :: vs).length + 1) = w.n := by
              rw [← hal]
              have := nth_len 0 (a :: aa ++ [(k : Int)]) w.n []
              simpa using this
            refine ⟨scope_of_ok hk (by simp), fun kk rows => ?_, c ++ t :: hw :: [w], by simp, ?_⟩
            · simp only [linearB, Bool.and_eq_true, decide_eq_true_eq]
              refine ⟨⟨⟨by simp [hl], by rw [n0]; omega⟩, by rw [n0]; omega⟩, args_mk _ _ 0 fun j hj => ?_⟩
              rcases Nat.lt_or_ge j (a :: aa).length with hj1 | hj1
              · rw [nth_left _ _ _ _ hj1]
                have := hb _ (nth_mem 0 hj1)
                exact ⟨fun _ => this.1, this.2⟩
              · refine ⟨fun hi => by omega, ?_⟩
                have : j = (a :: aa).length ∨ j = (a :: aa).length + 1 := by
                  rw [List.length_append] at hj
                  simp only [List.length_cons, List.length_nil] at hj hj1 ⊢
                  omega
                rcases this with rfl | rfl
                · rw [hal, n0]
                  have : k = 0 ∨ k = 1 ∨ k = 2 := by omega
                  rcases this with rfl | rfl | rfl <;> decide
                · rw [hal, n1]; exact hsm
            · rw [List.map_append, hc, n0, n1]
              simp only [List.map_cons, List.map_nil]
              have hwo := ok_word (ha.right.tail hw (List.mem_cons_self ..)) hh.1
              have hwn := ok_num (ha.right.tail.tail w (List.mem_cons_self ..)) hk2
              rw [ht, hwo, hwn, show ((k : Int)).toNat = k from rfl, e3]
              have hlk : linK 0 (a :: aa ++ [(k : Int), w.n]) (v :: vs) = [nT a, nT v] ++ linK 1 aa vs := by
                rw [← linK_take, List.take_append_of_le_length (by omega), List.take_of_length_le (by omega), linK, if_neg (by omega)]
                rfl
              rw [hlk]
      · cases h
theorem hardQ_s {x : Ins} {kind : Int} {ts r : List Tok} {c : Con} (hk1 : 1 ≤ kind) (hk6 : kind ≤ 6) (ha : AllOk ts) (h : hardQ x.doms kind ts = .ok (c, r)) :
    c.kind = kind ∧ hardB x c = true ∧ ∃ cs, ts = cs ++ r ∧ hardK c = wT (nth [] wordsT kind.toNat) :: cs.map er := by
  rw [hardQ] at h
  split at h
  · rename_i h6
    split at h
    · cases h
    · rename_i args scope q hq
      injection h with h
      injection h with h1 h2
      subst h1 h2
      obtain ⟨hs, hl, cs, rfl, hc⟩ := linearQ_s ha hq
      refine ⟨rfl, ?_, cs, rfl, ?_⟩
      · simp only [hardB, Bool.and_eq_true, decide_eq_true_eq, Bool.not_eq_true', Bool.and_eq_false_iff, decide_eq_false_iff_not]
        rw [if_pos h6]
        exact ⟨⟨⟨⟨hs, hk1⟩, hk6⟩, .inr (by simp)⟩, hl _ _⟩
      · simp only [hardK]
        rw [if_pos h6, hc]
  · rename_i h6
    split at h
    · cases h
    · rename_i scope q hs
      obtain ⟨l, c1, rfl, rfl, hc1, hok, hne⟩ := scopeQ_s _ ts [] scope q ha ⟨by simp, rfl, by simp⟩ hs
      simp only [List.nil_append] at hok hne h hs
      have hsb := scope_of_ok hok hne
      split at h
      · rename_i h2
        split at h
        · cases h
        · rename_i rows q2 ht
          injection h with h
          injection h with h1 h2
          subst h1 h2
          obtain ⟨c2, rfl, hc2, hb⟩ := tableQ_s ha.right ht
          refine ⟨rfl, ?_, c1 ++ c2, by simp, ?_⟩
          · simp only [hardB, Bool.and_eq_true, decide_eq_true_eq, Bool.not_eq_true', Bool.and_eq_false_iff, decide_eq_false_iff_not]
            rw [if_neg h6]
            simp only [Bool.and_eq_true, decide_eq_true_eq]
            exact ⟨⟨⟨⟨hsb, hk1⟩, hk6⟩, .inl (by omega)⟩, rfl, hb⟩
          · simp only [hardK]
            rw [if_neg h6, if_neg (by omega), List.map_append, hc1, hc2]
            rfl
      · rename_i h2
        injection h with h
        injection h with h1 h3
        subst h1 h3
        refine ⟨rfl, ?_, c1, rfl, ?_⟩
        · simp only [hardB, Bool.and_eq_true, decide_eq_true_eq, Bool.not_eq_true', Bool.and_eq_false_iff, decide_eq_false_iff_not]
          rw [if_neg h6]
          simp only [Bool.and_eq_true, decide_eq_true_eq]
          exact ⟨⟨⟨⟨hsb, hk1⟩, hk6⟩, .inr (by simp)⟩, rfl, rfl⟩
        · simp only [hardK]
          rw [if_neg h6, if_pos (by omega), hc1]
          simp
theorem costsQ_s {doms : List (List Int)} {scope : List Int} : ∀ (n : Nat) (rs : List (List Int)) (ks : List Int) (p : List (List Int) × List Int) (ts r : List Tok), AllOk ts → costsQ doms scope n rs ks ts = .ok (p, r) →
    ∃ rows costs c, p = (rs ++ rows, ks ++ costs) ∧ ts = c ++ r ∧ c.map er = costsK rows costs ∧ rows.length = costs.length ∧ rowsB doms scope (lastO rs) rows = true ∧ (∀ k ∈ costs, smallB k 1000000000000 = true)
  | 0, _, _, _, _, _, _, h => by cases h
  | n + 1, rs, ks, p, ts, r, ha, h => by
    rw [costsQ] at h
    split at h
    · rename_i hcm
      obtain ⟨t, q, rfl, ht, hq⟩ := isQ_s (by decide) ha hcm
      rw [hq] at h
      split at h
      · cases h
      · rename_i rows1 q1 hr
        obtain ⟨v, c, rfl, rfl, hc, hl, hi, hlt⟩ := rowQ_s ha.tail hr
        split at h
        · cases h
        · rename_i u q2 hn
          obtain ⟨rfl, hk2, hsm⟩ := numberQ_s hn
          obtain ⟨rows, costs, c2, rfl, rfl, hc2, hll, hb, hs⟩ := costsQ_s n _ _ p q2 r ha.tail.right.tail h
          refine ⟨v :: rows, u.n :: costs, t :: (c ++ u :: c2), by simp, by simp, ?_, by simp [hll], ?_, ?_⟩
          · rw [List.map_cons, List.map_append, List.map_cons, ht, hc, hc2, ok_num (ha.tail.right u (List.mem_cons_self ..)) hk2, costsK]
            simp
          · rw [rowsB_cons]
            simp only [Bool.and_eq_true, decide_eq_true_eq]
            rw [lastO_snoc] at hb
            exact ⟨⟨⟨hl, hlt⟩, hi⟩, hb⟩
          · intro k hk
            rcases List.mem_cons.1 hk with rfl | hk
            · exact hsm
            · exact hs k hk
    · injection h with h
      injection h with h1 h2
      subst h1 h2
      exact ⟨[], [], [], by simp, rfl, by simp [costsK], rfl, rfl, by simp⟩
theorem softQ_s {x : Ins} {ts r : List Tok} {s : Sft} (ha : AllOk ts) (h : softQ x.doms ts = .ok (s, r)) : softB x s = true ∧ ∃ cs, ts = cs ++ r ∧ softK s = wT softT :: cs.map er := by
  rw [softQ] at h
  split at h
  · cases h
  · rename_i scope q hs
    obtain ⟨l, c1, rfl, rfl, hc1, hok, hne⟩ := scopeQ_s _ ts [] scope q ha ⟨by simp, rfl, by simp⟩ hs
    simp only [List.nil_append] at hok hne h hs
    have hsb := scope_of_ok hok hne
    split at h
    · cases h
    · rename_i u q1 hg
      obtain ⟨t, rfl, ht⟩ := signQ_s (by decide) ha.right hg
      split at h
      · cases h
      · rename_i v q2 hn
        obtain ⟨rfl, hk2, hsm⟩ := numberQ_s hn
        split at h
        · cases h
        · rename_i rows costs q3 hc
          injection h with h
          injection h with h1 h2
          subst h1 h2
          obtain ⟨rows', costs', c2, e1, rfl, hc2, hll, hb, hcs⟩ := costsQ_s _ _ _ _ q2 q3 ha.right.tail.tail hc
          simp only [List.nil_append, Prod.mk.injEq] at e1
          obtain ⟨rfl, rfl⟩ := e1
          refine ⟨?_, c1 ++ t :: v :: c2, by simp, ?_⟩
          · simp only [softB, Bool.and_eq_true, decide_eq_true_eq, Bool.not_eq_true']
            refine ⟨⟨⟨⟨hsb, hll.symm⟩, hsm⟩, ?_⟩, hb⟩
            simp only [wideAny, List.any_eq_false]
            intro k hk
            simp [hcs k hk]
          · simp only [softK]
            rw [List.map_append, List.map_cons, List.map_cons, hc1, ht, hc2, ok_num (ha.right.tail v (List.mem_cons_self ..)) hk2]
            simp
theorem stmtQ_s {x y : Ins} {ts r : List Tok} (ha : AllOk ts) (h : stmtQ x ts = .ok (y, r)) : ∃ st c, y = add x st ∧ okSt x st ∧ ts = c ++ r ∧ c.map er = stK st := by
  cases ts with
  | nil => cases h
  | cons t q =>
    by_cases hg : t.kind = 1 ∧ (0 < wordFrom t.text 0 wordsT ∨ t.text = varT ∨ t.text = softT)
    · obtain ⟨hk, hw⟩ := hg
      have ht := ok_word (ha t (List.mem_cons_self ..)) hk
      have h4 : ¬ t.kind = 4 := by omega
      by_cases hv : t.text = varT
      · simp only [stmtQ, nextQ, if_neg h4, if_pos hv] at h
        rw [if_neg (fun hx => hx ⟨hk, hw⟩)] at h
        split at h
        · cases h
        · rename_i y' r' hy
          split at h
          · cases h
          · rename_i u r2 hs
            injection h with h
            injection h with h1 h2
            subst h1 h2
            split at hy
            · cases hy
            · rename_i h40
              split at hy
              · cases hy
              · rename_i d r3 hd
                injection hy with hy
                injection hy with h1 h2
                subst h1 h2
                obtain ⟨l, c, rfl, rfl, hc, hb⟩ := domQ_s q [] d r3 ha.tail (by simp) rfl (by intro n hn; simp at hn) hd
                obtain ⟨s, rfl, hs'⟩ := signQ_s (by decide) ha.tail.right hs
                refine ⟨.dom d, t :: c ++ [s], by simp [add], ⟨by omega, by simpa using hb⟩, by simp, ?_⟩
                simp only [List.map_append, List.map_cons, List.map_nil, stK, domK]
                rw [ht, hv, hc, hs']
      · by_cases hsf : t.text = softT
        · simp only [stmtQ, nextQ, if_neg h4, if_neg hv, if_pos hsf] at h
          rw [if_neg (fun hx => hx ⟨hk, hw⟩)] at h
          split at h
          · cases h
          · rename_i y' r' hy
            split at h
            · cases h
            · rename_i u r2 hs
              injection h with h
              injection h with h1 h2
              subst h1 h2
              split at hy
              · cases hy
              · rename_i h40
                split at hy
                · cases hy
                · rename_i d r3 hd
                  injection hy with hy
                  injection hy with h1 h2
                  subst h1 h2
                  obtain ⟨hb, c, rfl, hc⟩ := softQ_s ha.tail hd
                  obtain ⟨s, rfl, hs'⟩ := signQ_s (by decide) ha.tail.right hs
                  refine ⟨.soft d, t :: c ++ [s], rfl, ⟨by omega, hb⟩, by simp, ?_⟩
                  simp only [List.map_append, List.map_cons, List.map_nil, stK]
                  rw [hc, ht, hsf, hs']
        · have hw0 : 0 < wordFrom t.text 0 wordsT := by
            rcases hw with hw | hw | hw
            · exact hw
            · exact absurd hw hv
            · exact absurd hw hsf
          obtain ⟨k, e1, e2, e3⟩ := wordFrom_s t.text wordsT 0 (by omega)
          rw [Nat.zero_add] at e1
          have e2' : k < 7 := e2
          simp only [stmtQ, nextQ, if_neg h4, if_neg hv, if_neg hsf] at h
          rw [if_neg (fun hx => hx ⟨hk, hw⟩)] at h
          split at h
          · cases h
          · rename_i y' r' hy
            split at h
            · cases h
            · rename_i u r2 hs
              injection h with h
              injection h with h1 h2
              subst h1 h2
              split at hy
              · cases hy
              · rename_i h40
                split at hy
                · cases hy
                · rename_i d r3 hd
                  injection hy with hy
                  injection hy with h1 h2
                  subst h1 h2
                  obtain ⟨hkd, hb, c, rfl, hc⟩ := hardQ_s (x := x) (by omega) (by omega) ha.tail hd
                  obtain ⟨s, rfl, hs'⟩ := signQ_s (by decide) ha.tail.right hs
                  refine ⟨.hard d, t :: c ++ [s], rfl, ⟨by omega, hb⟩, by simp, ?_⟩
                  simp only [List.map_append, List.map_cons, List.map_nil, stK]
                  rw [hc, ht, hs', e1, show ((k : Int)).toNat = k from rfl, e3]
    · rw [stmtQ_bad hg] at h; cases h
theorem stmtsQ_s : ∀ (n : Nat) (x y : Ins) (ts : List Tok), AllOk ts → ts ≠ [] → stmtsQ n x ts = .ok y → ∃ sts c e r, y = sts.foldl add x ∧ okAll x sts ∧ ts = c ++ e :: r ∧ e.kind = 4 ∧ c.map er = sts.flatMap stK
  | 0, _, _, _, _, _, h => by cases h
  | n + 1, x, y, [], _, hne, _ => absurd rfl hne
  | n + 1, x, y, t :: q, ha, _, h => by
    by_cases h4 : t.kind = 4
    · rw [stmtsQ_end h4] at h
      injection h with h
      subst h
      exact ⟨[], [], t, q, rfl, trivial, rfl, h4, rfl⟩
    · cases hs : stmtQ x (t :: q) with
      | error e => rw [stmtsQ_err h4 hs] at h; cases h
      | ok p =>
        obtain ⟨x2, r⟩ := p
        rw [stmtsQ_go h4 hs] at h
        obtain ⟨st, c, rfl, ho, hq, hc⟩ := stmtQ_s ha hs
        by_cases hr : r = []
        · subst hr
          exfalso
          cases n with
          | zero => cases h
          | succ n =>
            have he : stmtsQ (n + 1) (add x st) [] = .error (0, 3) := rfl
            rw [he] at h; cases h
        · obtain ⟨sts, c2, e, r2, rfl, ho2, rfl, he, hc2⟩ := stmtsQ_s n _ y r (by rw [hq] at ha; exact ha.right) hr h
          exact ⟨st :: sts, c ++ c2, e, r2, rfl, ⟨ho, ho2⟩, by rw [hq]; simp, he, by rw [List.map_append, hc, hc2, List.flatMap_cons]⟩
end Go.Proofs.YtgpgmmkkmoecmaaGreatDoor
