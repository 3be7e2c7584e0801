/- Texts joined: Wav Waw Way Waz. -/
import Derived.Test.YtoahaigfjfeopaaGreatDoorGg
import Derived.BigQuiet
import Derived.Test.YtoahaigfjfeopaaGreatDoorGj
/- arboristref06.Right: its parts. -/
namespace Go.Proofs.YtoahaigfjfeopaaGreatDoor
open Go.RowKit
attribute [local irreducible] wpStill wpLex Calls

theorem refrising_any (v : Value) (xs : List Int) (ok : Nat → Prop) (w : World) (h1 : Sl (Kd.int .i64) w ok v xs) :
    Calls Tryz.prog 22 #[v] w fun e w' => e = .returned (.bool (risingB xs)) ∧ ∃ n, w' = w.drewN n := by
  obtain ⟨A, c, rfl, hc, hm, hA⟩ := h1
  go_enter Tryz.func22, Tryz.ntmps22
  go_wp2
  go_loopw [3] (fun i wr => ∃ k : Nat, i = .int .i64 (k + 1) ∧ Hid (risingB xs = risingB (xs.drop k)) ∧ (k ≤ xs.length) ∧ ∃ n, wr = w.drewN n) (fun i _ => xs.length - (intOf i).toNat)
  case atStart => exact ⟨0, rfl, Lib.hid rfl, by omega, 0, rfl⟩
  case round =>
    obtain ⟨k, rfl, H, hk, nd, rfl⟩ := hrel
    by_cases hlt : k + 1 < xs.length
    · obtain ⟨b, o, rfl, c1⟩ := hA.num (j := k) (by omega)
      obtain ⟨b', o', he, c2⟩ := hA.num hlt
      injection he with he
      injection he with he1 he2
      subst he1 he2
      have H' := Lib.hid (risingB_drop xs k hlt)
      have h1 : IntKind.i64.wrap ((k:Int) + 1 - 1) = k := by rw [show (k:Int) + 1 - 1 = k from by omega]; exact IntWalk.i64_in _ (by omega)
      have h2 : ((k:Int) + 1).toNat = k + 1 := by omega
      clear hA
      by_cases h : nth 0 xs (k + 1) ≤ nth 0 xs k
      · go_wp2
        go_quiet (fail)
        go_wp2
        go_ret
        exact ⟨ret_bool (by rw [H.out, H'.out]; simp; omega), by first | exact ⟨_, rfl⟩ | exact ⟨_, World.drewN_drewN ..⟩⟩
      · go_wp2
        go_quiet (fail)
        go_wp2
        go_roundw
        case rel => exact ⟨k + 1, by go_num, Lib.hid (by rw [H.out, H'.out]; simp; omega), by omega, _, rfl⟩
        case measure => simp [intOf]; omega
    · go_wp2
      go_ret
      exact ⟨ret_bool (by rw [H.out, risingB_last xs k (by omega)]), _, rfl⟩
theorem refsmall_any (n m : Int) (w : World) (h3 : 0 ≤ m) (h4 : m ≤ 9223372036854775807) :
    Calls Tryz.prog 23 #[.int .i64 n, .int .i64 m] w fun e w' => e = .returned (.bool (smallB n m)) ∧ w = w' := by
  by_cases h : -m ≤ n
  · go_enter Tryz.func23, Tryz.ntmps23
    go_wp2
    go_ret
    exact ⟨by simp [smallB, h], rfl⟩
  · go_enter Tryz.func23, Tryz.ntmps23
    go_wp2
    go_ret
    exact ⟨by simp [smallB]; omega, rfl⟩
theorem refin_any (v : Value) (xs : List Int) (x : Int) (ok : Nat → Prop) (w : World) (h1 : Sl (Kd.int .i64) w ok v xs) :
    Calls Tryz.prog 88 #[v, .int .i64 x] w fun e w' => e = .returned (.bool (decide (x ∈ xs))) ∧ w = w' := by
  obtain ⟨A, c, rfl, hc, hm, hA⟩ := h1
  go_enter Tryz.func88, Tryz.ntmps88
  go_wp2
  go_loop [5] (fun i => ∃ k : Nat, i = .int .i64 k ∧ k ≤ xs.length ∧ Hid (decide (x ∈ xs) = decide (x ∈ xs.drop k))) (fun i => xs.length - (intOf i).toNat)
  case atStart => exact ⟨0, rfl, by omega, Lib.hid rfl⟩
  case round =>
    obtain ⟨k, rfl, hk, H⟩ := hrel
    by_cases hlt : k < xs.length
    · obtain ⟨b, o, rfl, c1⟩ := hA.num hlt
      have H' : Hid (decide (x ∈ xs.drop k) = (decide (x = nth 0 xs k) || decide (x ∈ xs.drop (k + 1)))) := Lib.hid (by rw [drop_cons xs 0 k hlt]; simp)
      clear hA
      by_cases he : nth 0 xs k = x
      · have hb : (nth 0 xs k == x) = true := by simp [he]
        have HE := Lib.hid he
        clear he
        go_wp2
        go_ret
        exact ⟨ret_bool (by rw [H.out, H'.out, HE.out]; simp), rfl⟩
      · have hb : (nth 0 xs k == x) = false := by simp [he]
        have HE := Lib.hid he
        clear he
        go_wp2
        go_round
        case rel => exact ⟨k + 1, by go_num, by omega, Lib.hid (by rw [H.out, H'.out, decide_eq_false (fun e => HE.out e.symm), Bool.false_or])⟩
        case measure => simp [intOf]; omega
    · go_wp2
      go_ret
      exact ⟨ret_bool (by rw [H.out, List.drop_eq_nil_of_le (by omega)]; simp), rfl⟩
theorem refscope_any (vD vH vS v : Value) (doms : List (List Int)) (xs : List Int) (ok : Nat → Prop) (w : World) (hD : Sl kRow w ok vD doms) (h1 : Sl (Kd.int .i64) w ok v xs) :
    Calls Tryz.prog 49 #[.agg #[vD, vH, vS], v] w fun e w' => e = .returned (.bool (scopeB doms.length xs)) ∧ Below w.heap.size w w' := by
  obtain ⟨A', c', rfl, hc', hm', hA'⟩ := hD
  have H := Sl.below (by decide) h1 (below_alloc1 w (.cells #[.slice A' doms.length c', vH, vS] 26))
  have HB := below_alloc1 w (.cells #[.slice A' doms.length c', vH, vS] 26)
  have HX := heap_alloc_new w (.cells #[.slice A' doms.length c', vH, vS] 26)
  obtain ⟨A, c, rfl, hc, hm, hA⟩ := h1
  have hA := Sl.elems H
  have HR := Lib.hid (refrising_any _ _ _ _ H)
  by_cases h0 : 0 < xs.length
  · by_cases h6 : xs.length ≤ 6
    · obtain ⟨b, o, rfl, c0⟩ := hA.num h0
      obtain ⟨b', o', he, c1⟩ := hA.num (j := xs.length - 1) (by omega)
      injection he with he
      injection he with he1 he2
      subst he1 he2
      simp only [Nat.add_zero] at c0
      have hs0 : IntKind.i64.wrap ((xs.length:Int) - 1) = (xs.length:Int) - 1 := IntWalk.i64_in _ (by omega)
      have hs1 : ((xs.length:Int) - 1).toNat = xs.length - 1 := by omega
      have hs2 : ¬ xs.length < 1 := by omega
      clear hA hA' H
      cases hr : risingB xs
      · rw [hr] at HR
        have hrh := Lib.hid hr
        clear hr c0 c1 HX
        go_enter Tryz.func49, Tryz.ntmps49
        go_wp2_with (go_at_call 22; refine HR.out.mono ?_; rintro e w1 ⟨rfl, n, rfl⟩)
        go_ret
        exact ⟨ret_bool (by simp [scopeB, hrh.out]), below_drewN HB _⟩
      · rw [hr] at HR
        have hrh := Lib.hid hr
        have x0 := cell_at HX (i := 0) rfl
        clear hr HX
        by_cases h00 : 0 ≤ nth 0 xs 0
        · go_enter Tryz.func49, Tryz.ntmps49
          go_wp2_with (go_at_call 22; refine HR.out.mono ?_; rintro e w1 ⟨rfl, n, rfl⟩)
          go_quiet (fail)
          go_wp2
          go_ret
          exact ⟨ret_bool (by simp [scopeB, hrh.out, h00, h6, h0]), below_drewN (below_drewN HB _) _⟩
        · have hd0 : decide (0 ≤ nth 0 xs 0) = false := decide_eq_false h00
          go_enter Tryz.func49, Tryz.ntmps49
          go_wp2_with (go_at_call 22; refine HR.out.mono ?_; rintro e w1 ⟨rfl, n, rfl⟩)
          go_quiet (fail)
          go_wp2
          go_ret
          exact ⟨ret_bool (by simp [scopeB, hrh.out]; intros; omega), below_drewN (below_drewN HB _) _⟩
    · have hs2 : ¬ xs.length < 1 := by omega
      clear hA hA' H HX HR
      go_enter Tryz.func49, Tryz.ntmps49
      go_wp2
      go_ret
      exact ⟨ret_bool (by simp [scopeB, h6]), HB⟩
  · have hs2 : xs.length < 1 := by omega
    clear hA hA' H HX HR
    go_enter Tryz.func49, Tryz.ntmps49
    go_wp2
    go_ret
    exact ⟨ret_bool (by simp [scopeB, h0]), HB⟩
theorem rowsB_pos (doms : List (List Int)) (scope : List Int) (rows : List (List Int)) (k : Nat) (hk : 0 < k) (h : k < rows.length) :
    rowsB doms scope (ahead rows k) (rows.drop k) = (decide ((nth [] rows k).length = scope.length) && decide (cmpL (nth [] rows (k - 1)) (nth [] rows k) < 0) && inDoms doms scope (nth [] rows k) && rowsB doms scope (ahead rows (k + 1)) (rows.drop (k + 1))) := by
  obtain ⟨j, rfl⟩ : ∃ j, k = j + 1 := ⟨k - 1, by omega⟩
  exact rowsB_drop doms scope rows (j + 1) h
theorem rowsB_nul (doms : List (List Int)) (scope : List Int) (rows : List (List Int)) (h : 0 < rows.length) :
    rowsB doms scope (ahead rows 0) (rows.drop 0) = (decide ((nth [] rows 0).length = scope.length) && true && inDoms doms scope (nth [] rows 0) && rowsB doms scope (ahead rows 1) (rows.drop 1)) :=
  rowsB_drop doms scope rows 0 h
set_option maxRecDepth 100000 in
set_option maxHeartbeats 4000000 in
theorem refrows_any (vD vH vS vs v : Value) (doms : List (List Int)) (scope : List Int) (rows : List (List Int)) (ok : Nat → Prop) (w : World) (hD : Sl kRow w ok vD doms) (hs : Sl (Kd.int .i64) w ok vs scope) (hr : Sl kRow w ok v rows)
    (hsc : ∀ k, k < scope.length → 0 ≤ nth 0 scope k ∧ nth 0 scope k < doms.length) :
    Calls Tryz.prog 50 #[.agg #[vD, vH, vS], vs, v] w fun e w' => e = .returned (.bool (rowsB doms scope none rows)) ∧ Below w.heap.size w w' := by
  obtain ⟨AD, cD, rfl, hcD, hmD, hAD⟩ := hD
  have HB := Lib.hid (below_alloc1 w (.cells #[.slice AD doms.length cD, vH, vS] 26))
  have HX := Lib.hid (heap_alloc_new w (.cells #[.slice AD doms.length cD, vH, vS] 26))
  have HD := Lib.hid (Sl.below (v := .slice AD doms.length cD) (xs := doms) (by decide) ⟨AD, cD, rfl, hcD, hmD, hAD⟩ HB.out)
  clear hAD
  obtain ⟨As, cs, rfl, hcs, hms, hAs⟩ := hs
  have HS := Lib.hid (Sl.below (v := .slice As scope.length cs) (xs := scope) (by decide) ⟨As, cs, rfl, hcs, hms, hAs⟩ HB.out)
  clear hAs
  obtain ⟨A, c, rfl, hc, hm, hA⟩ := hr
  have HR := Lib.hid (Sl.below (v := .slice A rows.length c) (xs := rows) (by decide) ⟨A, c, rfl, hc, hm, hA⟩ HB.out)
  clear hA
  have hsc' := Lib.hid hsc
  clear hsc
  go_enter Tryz.func50, Tryz.ntmps50
  go_wp2_with fail
  generalize w.alloc (.cells #[.slice AD doms.length cD, vH, vS] 26) = W0 at *
  go_loopw [7, 8, 9] (fun i _ _ wr => ∃ k : Nat, i = .int .i64 k ∧ k ≤ rows.length ∧ Hid (rowsB doms scope none rows = rowsB doms scope (ahead rows k) (rows.drop k)) ∧ Hid (Below W0.heap.size W0 wr)) (fun i _ _ _ => rows.length - (intOf i).toNat)
  case atStart => exact ⟨0, rfl, by omega, Lib.hid rfl, Lib.hid (Below.refl _ _)⟩
  case round =>
    obtain ⟨k, rfl, hk, H, HW⟩ := hrel
    by_cases hkl : k < rows.length
    · obtain ⟨b, o, vt, rfl, c1, ht⟩ := HR.out.elems.row hkl
      have HT := Lib.hid ht
      obtain ⟨At, ct, rfl, hct, hmt, _⟩ := ht
      have HWD := Lib.hid (below_next HW.out (Below.drew (Below.refl _ _)))
      have c0 := c1
      have c1 := cell_kept HWD.out c1
      by_cases hlen : (nth [] rows k).length = scope.length
      · have hb : (((nth [] rows k).length : Int) != scope.length) = false := by simp; omega
        have HLEN := Lib.hid hlen
        have hlen2 : scope.length ≤ (nth [] rows k).length := by omega
        clear hlen
        by_cases hpos : 0 < k
        · obtain ⟨b', o', vp, he, c2, hp⟩ := HR.out.elems.row (j := k - 1) (by omega)
          injection he with he
          injection he with he1 he2
          subst he1 he2
          have hs0 : IntKind.i64.wrap ((k:Int) - 1) = (k:Int) - 1 := IntWalk.i64_in _ (by omega)
          have hs1 : ((k:Int) - 1).toNat = k - 1 := by omega
          have hi1 : (1 : Int) ≤ (k : Int) := by omega
          have hi2 : (k : Int) - 1 < rows.length := by omega
          have c2 := cell_kept HWD.out c2
          have HP := Lib.hid hp
          obtain ⟨Ap, cp, rfl, _, _, _⟩ := hp
          have hcp := Lib.hid (refcmp_any (.slice Ap (nth [] rows (k - 1)).length cp) (.slice At (nth [] rows k).length ct) _ _ ok _ (HP.out.below (by decide) HWD.out) (HT.out.below (by decide) HWD.out))
          by_cases hcmp : cmpL (nth [] rows (k - 1)) (nth [] rows k) < 0
          · have Hx : Hid (rowsB doms scope none rows = (inDoms doms scope (nth [] rows k) && rowsB doms scope (ahead rows (k + 1)) (rows.drop (k + 1)))) := by
              apply Lib.hid; rw [H.out, rowsB_pos doms scope rows k hpos hkl, decide_eq_true hcmp, HLEN.out]; simp only [decide_true, Bool.true_and]
            clear H
            go_wp2_with fail
            refine wp_region_still_tail 21 (by kernel_rfl) (by kernel_rfl) ?_
            change wpStill _ _ (World.drew wr) (fun a' => wpList _ _ _ _ a' (World.drew wr)) _ _
            generalize World.drew wr = W at *
            simp only [List.take_succ_cons, List.take_zero, List.drop_succ_cons, List.drop_zero]
            repeat (first | (refine still_plain rfl (fun K hK => ?_); go_simp; refine hK _ ?_; clear hK K) | (refine still_off _ _ _ _ _ rfl rfl rfl rfl rfl (fun K hK => ?_); go_simp; refine hK _ ?_; clear hK K) | (refine still_on _ _ _ _ rfl rfl rfl rfl (fun K hK => ?_); go_simp; refine hK _ ?_; clear hK K) | (refine still_dead _ _ _ _ rfl rfl rfl rfl (fun K hK => ?_); go_simp; refine hK _ ?_; clear hK K))
            refine wpStill_nil ?_
            go_wp2_with (go_at_call 66; refine hcp.out.mono ?_; rintro e w2 ⟨rfl, n, rfl⟩)
            have HW2 := Lib.hid (below_drewN HWD.out n)
            clear hcp c2 c1 HP hs0 hs1 hi1 hi2
            generalize W.drewN n = W2 at *
            go_loopw [8, 9] (fun i _ wr => ∃ m : Nat, i = .int .i64 m ∧ m ≤ scope.length ∧ Hid (inDoms doms scope (nth [] rows k) = inDoms doms (scope.drop m) ((nth [] rows k).drop m)) ∧ Hid (Below W0.heap.size W0 wr)) (fun i _ _ => scope.length - (intOf i).toNat)
            case atStart => exact ⟨0, rfl, by omega, Lib.hid rfl, HW2⟩
            case round =>
              obtain ⟨m, rfl, hm1, G, HW3⟩ := hrel
              by_cases hml : m < scope.length
              · obtain ⟨b1, o1, rfl, d1⟩ := HS.out.elems.num hml
                obtain ⟨b2, o2, rfl, d2⟩ := HT.out.elems.num (j := m) (by omega)
                obtain ⟨q1, q2⟩ := hsc'.out m hml
                obtain ⟨b3, o3, v3, rfl, d3, hd3⟩ := HD.out.elems.row (j := (nth 0 scope m).toNat) (by omega)
                have G' := Lib.hid (inDoms_drop doms scope (nth [] rows k) m hml (by omega))
                have HWE := Lib.hid (below_next HW3.out (Below.drew (Below.refl _ _)))
                have d1 := cell_kept HWE.out d1
                have d2 := cell_kept HWE.out d2
                have d3 := cell_kept HWE.out d3
                have hmr : m < (nth [] rows k).length := by omega
                have c4 := cell_kept HWE.out c0
                have x0 := cell_at (block_kept HWE.out HX.out) (i := 0) rfl
                have hin := Lib.hid (refin_any v3 _ (nth 0 (nth [] rows k) m) ok _ (hd3.below (by decide) HWE.out))
                clear hd3
                cases hmem : decide (nth 0 (nth [] rows k) m ∈ nth [] doms (nth 0 scope m).toNat)
                · rw [hmem] at hin
                  go_wp2_with fail
                  refine wp_region_still_tail 15 (by kernel_rfl) (by kernel_rfl) ?_
                  change wpStill _ _ (World.drew wr) (fun a' => wpList _ _ _ _ a' (World.drew wr)) _ _
                  generalize World.drew wr = W5 at *
                  simp only [List.take_succ_cons, List.take_zero, List.drop_succ_cons, List.drop_zero]
                  repeat (first | (refine still_plain rfl (fun K hK => ?_); go_simp; refine hK _ ?_; clear hK K) | (refine still_off _ _ _ _ _ rfl rfl rfl rfl rfl (fun K hK => ?_); go_simp; refine hK _ ?_; clear hK K) | (refine still_on _ _ _ _ rfl rfl rfl rfl (fun K hK => ?_); go_simp; refine hK _ ?_; clear hK K) | (refine still_dead _ _ _ _ rfl rfl rfl rfl (fun K hK => ?_); go_simp; refine hK _ ?_; clear hK K))
                  refine wpStill_nil ?_
                  go_wp2_with (go_at_call 88; refine hin.out.mono ?_; rintro e w5 ⟨rfl, rfl⟩)
                  go_ret
                  exact ⟨ret_bool (by rw [Hx.out, G.out, G'.out, hmem]; simp), HB.out.trans (HWE.out.mono HB.out.size)⟩
                · rw [hmem] at hin
                  go_wp2_with fail
                  refine wp_region_still_tail 15 (by kernel_rfl) (by kernel_rfl) ?_
                  change wpStill _ _ (World.drew wr) (fun a' => wpList _ _ _ _ a' (World.drew wr)) _ _
                  generalize World.drew wr = W5 at *
                  simp only [List.take_succ_cons, List.take_zero, List.drop_succ_cons, List.drop_zero]
                  repeat (first | (refine still_plain rfl (fun K hK => ?_); go_simp; refine hK _ ?_; clear hK K) | (refine still_off _ _ _ _ _ rfl rfl rfl rfl rfl (fun K hK => ?_); go_simp; refine hK _ ?_; clear hK K) | (refine still_on _ _ _ _ rfl rfl rfl rfl (fun K hK => ?_); go_simp; refine hK _ ?_; clear hK K) | (refine still_dead _ _ _ _ rfl rfl rfl rfl (fun K hK => ?_); go_simp; refine hK _ ?_; clear hK K))
                  refine wpStill_nil ?_
                  go_wp2_with (go_at_call 88; refine hin.out.mono ?_; rintro e w5 ⟨rfl, rfl⟩)
                  go_roundw
                  case rel => exact ⟨m + 1, by go_num, by omega, Lib.hid (by rw [G.out, G'.out, hmem]; simp), HWE⟩
                  case measure => simp [intOf]; omega
              · go_wp2
                go_roundw
                case rel => exact ⟨k + 1, by go_num, by omega, Lib.hid (by rw [Hx.out, G.out, List.drop_eq_nil_of_le (show scope.length ≤ m by omega)]; simp [inDoms]), HW3⟩
                case measure => simp [intOf]; omega
          · have Hx : Hid (rowsB doms scope none rows = false) := by
              apply Lib.hid; rw [H.out, rowsB_pos doms scope rows k hpos hkl, decide_eq_false hcmp]; simp
            clear H
            go_wp2_with fail
            refine wp_region_still_tail 21 (by kernel_rfl) (by kernel_rfl) ?_
            change wpStill _ _ (World.drew wr) (fun a' => wpList _ _ _ _ a' (World.drew wr)) _ _
            generalize World.drew wr = W at *
            simp only [List.take_succ_cons, List.take_zero, List.drop_succ_cons, List.drop_zero]
            repeat (first | (refine still_plain rfl (fun K hK => ?_); go_simp; refine hK _ ?_; clear hK K) | (refine still_off _ _ _ _ _ rfl rfl rfl rfl rfl (fun K hK => ?_); go_simp; refine hK _ ?_; clear hK K) | (refine still_on _ _ _ _ rfl rfl rfl rfl (fun K hK => ?_); go_simp; refine hK _ ?_; clear hK K) | (refine still_dead _ _ _ _ rfl rfl rfl rfl (fun K hK => ?_); go_simp; refine hK _ ?_; clear hK K))
            refine wpStill_nil ?_
            go_wp2_with (go_at_call 66; refine hcp.out.mono ?_; rintro e w2 ⟨rfl, n, rfl⟩)
            go_ret
            exact ⟨ret_bool (by rw [Hx.out]), HB.out.trans ((below_drewN HWD.out n).mono HB.out.size)⟩
        · have hk0 : k = 0 := by omega
          have Hx : Hid (rowsB doms scope none rows = (inDoms doms scope (nth [] rows k) && rowsB doms scope (ahead rows (k + 1)) (rows.drop (k + 1)))) := by
            apply Lib.hid
            subst hk0
            rw [H.out, rowsB_nul doms scope rows hkl, HLEN.out]; simp only [decide_true, Bool.true_and]
          clear H hk0
          have hd0 : decide (0 < (k : Int)) = false := decide_eq_false (by omega)
          go_wp2_with fail
          refine wp_region_still_tail 21 (by kernel_rfl) (by kernel_rfl) ?_
          change wpStill _ _ (World.drew wr) (fun a' => wpList _ _ _ _ a' (World.drew wr)) _ _
          generalize World.drew wr = W at *
          simp only [List.take_succ_cons, List.take_zero, List.drop_succ_cons, List.drop_zero]
          repeat (first | (refine still_plain rfl (fun K hK => ?_); go_simp; refine hK _ ?_; clear hK K) | (refine still_off _ _ _ _ _ rfl rfl rfl rfl rfl (fun K hK => ?_); go_simp; refine hK _ ?_; clear hK K) | (refine still_on _ _ _ _ rfl rfl rfl rfl (fun K hK => ?_); go_simp; refine hK _ ?_; clear hK K) | (refine still_dead _ _ _ _ rfl rfl rfl rfl (fun K hK => ?_); go_simp; refine hK _ ?_; clear hK K))
          refine wpStill_nil ?_
          have HW2 := Lib.hid HWD.out
          clear c1
          go_wp2_with fail
          generalize hWW : W = W2 at *
          go_loopw [8, 9] (fun i _ wr => ∃ m : Nat, i = .int .i64 m ∧ m ≤ scope.length ∧ Hid (inDoms doms scope (nth [] rows k) = inDoms doms (scope.drop m) ((nth [] rows k).drop m)) ∧ Hid (Below W0.heap.size W0 wr)) (fun i _ _ => scope.length - (intOf i).toNat)
          case atStart => exact ⟨0, rfl, by omega, Lib.hid rfl, HW2⟩
          case round =>
            obtain ⟨m, rfl, hm1, G, HW3⟩ := hrel
            by_cases hml : m < scope.length
            · obtain ⟨b1, o1, rfl, d1⟩ := HS.out.elems.num hml
              obtain ⟨b2, o2, rfl, d2⟩ := HT.out.elems.num (j := m) (by omega)
              obtain ⟨q1, q2⟩ := hsc'.out m hml
              obtain ⟨b3, o3, v3, rfl, d3, hd3⟩ := HD.out.elems.row (j := (nth 0 scope m).toNat) (by omega)
              have G' := Lib.hid (inDoms_drop doms scope (nth [] rows k) m hml (by omega))
              have HWE := Lib.hid (below_next HW3.out (Below.drew (Below.refl _ _)))
              have d1 := cell_kept HWE.out d1
              have d2 := cell_kept HWE.out d2
              have d3 := cell_kept HWE.out d3
              have hmr : m < (nth [] rows k).length := by omega
              have c4 := cell_kept HWE.out c0
              have x0 := cell_at (block_kept HWE.out HX.out) (i := 0) rfl
              have hin := Lib.hid (refin_any v3 _ (nth 0 (nth [] rows k) m) ok _ (hd3.below (by decide) HWE.out))
              clear hd3
              cases hmem : decide (nth 0 (nth [] rows k) m ∈ nth [] doms (nth 0 scope m).toNat)
              · rw [hmem] at hin
                go_wp2_with fail
                refine wp_region_still_tail 15 (by kernel_rfl) (by kernel_rfl) ?_
                change wpStill _ _ (World.drew wr) (fun a' => wpList _ _ _ _ a' (World.drew wr)) _ _
                generalize World.drew wr = W5 at *
                simp only [List.take_succ_cons, List.take_zero, List.drop_succ_cons, List.drop_zero]
                repeat (first | (refine still_plain rfl (fun K hK => ?_); go_simp; refine hK _ ?_; clear hK K) | (refine still_off _ _ _ _ _ rfl rfl rfl rfl rfl (fun K hK => ?_); go_simp; refine hK _ ?_; clear hK K) | (refine still_on _ _ _ _ rfl rfl rfl rfl (fun K hK => ?_); go_simp; refine hK _ ?_; clear hK K) | (refine still_dead _ _ _ _ rfl rfl rfl rfl (fun K hK => ?_); go_simp; refine hK _ ?_; clear hK K))
                refine wpStill_nil ?_
                go_wp2_with (go_at_call 88; refine hin.out.mono ?_; rintro e w5 ⟨rfl, rfl⟩)
                go_ret
                exact ⟨ret_bool (by rw [Hx.out, G.out, G'.out, hmem]; simp), HB.out.trans (HWE.out.mono HB.out.size)⟩
              · rw [hmem] at hin
                go_wp2_with fail
                refine wp_region_still_tail 15 (by kernel_rfl) (by kernel_rfl) ?_
                change wpStill _ _ (World.drew wr) (fun a' => wpList _ _ _ _ a' (World.drew wr)) _ _
                generalize World.drew wr = W5 at *
                simp only [List.take_succ_cons, List.take_zero, List.drop_succ_cons, List.drop_zero]
                repeat (first | (refine still_plain rfl (fun K hK => ?_); go_simp; refine hK _ ?_; clear hK K) | (refine still_off _ _ _ _ _ rfl rfl rfl rfl rfl (fun K hK => ?_); go_simp; refine hK _ ?_; clear hK K) | (refine still_on _ _ _ _ rfl rfl rfl rfl (fun K hK => ?_); go_simp; refine hK _ ?_; clear hK K) | (refine still_dead _ _ _ _ rfl rfl rfl rfl (fun K hK => ?_); go_simp; refine hK _ ?_; clear hK K))
                refine wpStill_nil ?_
                go_wp2_with (go_at_call 88; refine hin.out.mono ?_; rintro e w5 ⟨rfl, rfl⟩)
                go_roundw
                case rel => exact ⟨m + 1, by go_num, by omega, Lib.hid (by rw [G.out, G'.out, hmem]; simp), HWE⟩
                case measure => simp [intOf]; omega
            · go_wp2
              go_roundw
              case rel => exact ⟨k + 1, by go_num, by omega, Lib.hid (by rw [Hx.out, G.out, List.drop_eq_nil_of_le (show scope.length ≤ m by omega)]; simp [inDoms]), HW3⟩
              case measure => simp [intOf]; omega
      · have hb : (((nth [] rows k).length : Int) != scope.length) = true := by simp; omega
        have Hx : Hid (rowsB doms scope none rows = false) := by
          apply Lib.hid; rw [H.out, rowsB_drop doms scope rows k hkl, decide_eq_false hlen]; simp
        clear H
        go_wp2_with fail
        refine wp_region_still_tail 21 (by kernel_rfl) (by kernel_rfl) ?_
        change wpStill _ _ (World.drew wr) (fun a' => wpList _ _ _ _ a' (World.drew wr)) _ _
        generalize World.drew wr = W at *
        simp only [List.take_succ_cons, List.take_zero, List.drop_succ_cons, List.drop_zero]
        repeat (first | (refine still_plain rfl (fun K hK => ?_); go_simp; refine hK _ ?_; clear hK K) | (refine still_off _ _ _ _ _ rfl rfl rfl rfl rfl (fun K hK => ?_); go_simp; refine hK _ ?_; clear hK K) | (refine still_on _ _ _ _ rfl rfl rfl rfl (fun K hK => ?_); go_simp; refine hK _ ?_; clear hK K) | (refine still_dead _ _ _ _ rfl rfl rfl rfl (fun K hK => ?_); go_simp; refine hK _ ?_; clear hK K))
        refine wpStill_nil ?_
        go_wp2
        go_ret
        exact ⟨ret_bool (by rw [Hx.out]), HB.out.trans (HWD.out.mono HB.out.size)⟩
    · go_wp2
      go_ret
      exact ⟨ret_bool (by rw [H.out, List.drop_eq_nil_of_le (by omega)]; cases k <;> rfl), HB.out.trans (HW.out.mono HB.out.size)⟩
end Go.Proofs.YtoahaigfjfeopaaGreatDoor

/- arboristref06.hard, soft, Right. -/
namespace Go.Proofs.YtoahaigfjfeopaaGreatDoor
open Go.RowKit
attribute [local irreducible] wpStill wpLex Calls

set_option maxRecDepth 100000 in
set_option maxHeartbeats 8000000 in
theorem refhard_any (vD vH vS vs vr va : Value) (x : Ins) (c : Con) (ok : Nat → Prop) (w : World) (hD : Sl kRow w ok vD x.doms) (h1 : Sl (Kd.int .i64) w ok vs c.scope) (h2 : Sl kRow w ok vr c.rows) (h3 : Sl (Kd.int .i64) w ok va c.args) :
    Calls Tryz.prog 24 #[.agg #[vD, vH, vS], .agg #[.int .i64 c.kind, vs, vr, va]] w fun e w' => e = .returned (.bool (hardB x c)) ∧ Below w.heap.size w w' := by
  obtain ⟨AD, cD, rfl, hcD, hmD, hAD⟩ := hD
  obtain ⟨As, cs, rfl, hcs, hms, hAs⟩ := h1
  obtain ⟨Ar, cr, rfl, hcr, hmr, hAr⟩ := h2
  obtain ⟨Aa, ca, rfl, hca, hma, hAa⟩ := h3
  have HB := Lib.hid (below_next (below_alloc1 w (.cells #[.slice AD x.doms.length cD, vH, vS] 26)) (below_alloc1 _ (.cells #[.int .i64 c.kind, .slice As c.scope.length cs, .slice Ar c.rows.length cr, .slice Aa c.args.length ca] 43)))
  have HD := Lib.hid (Sl.below (v := .slice AD x.doms.length cD) (xs := x.doms) (by decide) ⟨AD, cD, rfl, hcD, hmD, hAD⟩ HB.out)
  have HS := Lib.hid (Sl.below (v := .slice As c.scope.length cs) (xs := c.scope) (by decide) ⟨As, cs, rfl, hcs, hms, hAs⟩ HB.out)
  have HR := Lib.hid (Sl.below (v := .slice Ar c.rows.length cr) (xs := c.rows) (by decide) ⟨Ar, cr, rfl, hcr, hmr, hAr⟩ HB.out)
  have HA := Lib.hid (Sl.below (v := .slice Aa c.args.length ca) (xs := c.args) (by decide) ⟨Aa, ca, rfl, hca, hma, hAa⟩ HB.out)
  have HX := Lib.hid (block_kept (below_alloc1 _ (.cells #[.int .i64 c.kind, .slice As c.scope.length cs, .slice Ar c.rows.length cr, .slice Aa c.args.length ca] 43)) (heap_alloc_new w (.cells #[.slice AD x.doms.length cD, vH, vS] 26)))
  have hy : ((w.alloc (.cells #[.slice AD x.doms.length cD, vH, vS] 26)).alloc (.cells #[.int .i64 c.kind, .slice As c.scope.length cs, .slice Ar c.rows.length cr, .slice Aa c.args.length ca] 43)).heap[w.heap.size + 1]? = some (.cells #[.int .i64 c.kind, .slice As c.scope.length cs, .slice Ar c.rows.length cr, .slice Aa c.args.length ca] 43) := by
    have := heap_alloc_new (w.alloc (.cells #[.slice AD x.doms.length cD, vH, vS] 26)) (.cells #[.int .i64 c.kind, .slice As c.scope.length cs, .slice Ar c.rows.length cr, .slice Aa c.args.length ca] 43)
    simpa using this
  have HY := Lib.hid hy
  have hsc := Lib.hid (refscope_any (.slice AD x.doms.length cD) vH vS (.slice As c.scope.length cs) x.doms c.scope ok _ HD.out HS.out)
  clear hAD hAs hAr hAa hcD hmD hcs hcr hca hy
  go_enter Tryz.func24, Tryz.ntmps24
  cases hs : scopeB x.doms.length c.scope
  · rw [hs] at hsc
    have hf : hardB x c = false := by simp [hardB, hs]
    have HF := Lib.hid hf
    clear hs hf
    go_wp2_with (go_at_call 49; refine hsc.out.mono ?_; rintro e w2 ⟨rfl, hb⟩; (have HB2 := Lib.hid hb); (have hy := block_kept hb HY.out); (have y0 := cell_at hy (i := 0) rfl); (have y1 := cell_at hy (i := 1) rfl); (have y2 := cell_at hy (i := 2) rfl); (have y3 := cell_at hy (i := 3) rfl); (have hx := block_kept hb HX.out); (have x0 := cell_at hx (i := 0) rfl); (have x1 := cell_at hx (i := 1) rfl); (have x2 := cell_at hx (i := 2) rfl); clear hb hy hx hsc)
    go_ret
    exact ⟨ret_bool HF.out.symm, below_next HB.out HB2.out⟩
  · rw [hs] at hsc
    have HSC := Lib.hid (scopeB_range hs)
    by_cases hg : 1 ≤ c.kind ∧ c.kind ≤ 6 ∧ ¬ (2 < c.kind ∧ 0 < c.rows.length) ∧ ¬ (c.kind ≠ 6 ∧ 0 < c.args.length)
    · obtain ⟨k1, k6, k2, k4⟩ := hg
      by_cases h6 : c.kind = 6
      · have hr0 : c.rows.length = 0 := by
          by_cases h : 0 < c.rows.length
          · exact absurd ⟨by omega, h⟩ k2
          · omega
        have hrn : c.rows = [] := List.eq_nil_of_length_eq_zero hr0
        have hf : hardB x c = linearB c := by simp [hardB, hs, h6, hr0]
        have HF := Lib.hid hf
        have HRN := Lib.hid hrn
        have k6b : (c.kind == 6) = true := by simpa using h6
        have k6c : (c.kind != 6) = false := by simpa using h6
        have k7 : 2 < c.kind := by omega
        have k8 : ¬ 0 < c.rows.length := by omega
        clear hs hf hrn hr0 k2 k4
        by_cases hl : c.args.length = c.scope.length + 2
        · have hlb : ((c.args.length : Int) != c.scope.length + 2) = false := by simp; omega
          obtain ⟨b, o, rfl, a1⟩ := HA.out.elems.num (j := c.scope.length) (by omega)
          obtain ⟨b', o', he, a2⟩ := HA.out.elems.num (j := c.scope.length + 1) (by omega)
          injection he with he
          injection he with he1 he2
          subst he1 he2
          have hl1 : c.scope.length < c.args.length := by omega
          have hl2 : c.scope.length + 1 < c.args.length := by omega
          have HL := Lib.hid hl
          clear hl h6
          by_cases q1 : 0 ≤ nth 0 c.args c.scope.length
          · by_cases q2 : nth 0 c.args c.scope.length ≤ 2
            · cases q3 : smallB (nth 0 c.args (c.scope.length + 1)) 1000000
              · have hf2 : linearB c = false := by
                  cases hh : linearB c
                  · rfl
                  · exfalso
                    simp only [linearB, Bool.and_eq_true] at hh
                    have := (args_at _ _ _ hh.2 (c.scope.length + 1) (by omega)).2
                    rw [q3] at this; cases this
                have HF2 := Lib.hid hf2
                clear hf2
                go_wp2_with (first
                  | (go_at_call 49; refine hsc.out.mono ?_; rintro e w2 ⟨rfl, hb⟩; (have HB2 := Lib.hid hb); (have hy := block_kept hb HY.out); (have y0 := cell_at hy (i := 0) rfl); (have y1 := cell_at hy (i := 1) rfl); (have y2 := cell_at hy (i := 2) rfl); (have y3 := cell_at hy (i := 3) rfl); (have hx := block_kept hb HX.out); (have x0 := cell_at hx (i := 0) rfl); (have x1 := cell_at hx (i := 1) rfl); (have x2 := cell_at hx (i := 2) rfl); (have d1 := cell_kept hb a1); (have d2 := cell_kept hb a2); clear hb hy hx hsc a1 a2)
                  | (go_at_call 23; refine (refsmall_any _ _ _ (by omega) (by omega)).mono ?_; rintro e w' ⟨rfl, rfl⟩))
                go_ret
                exact ⟨ret_bool (by rw [HF.out, HF2.out]), below_next HB.out HB2.out⟩
              · have Q3 := Lib.hid q3
                go_wp2_with (first
                  | (go_at_call 49; refine hsc.out.mono ?_; rintro e w2 ⟨rfl, hb⟩; (have HB2 := Lib.hid hb); (have hy := block_kept hb HY.out); (have y0 := cell_at hy (i := 0) rfl); (have y1 := cell_at hy (i := 1) rfl); (have y2 := cell_at hy (i := 2) rfl); (have y3 := cell_at hy (i := 3) rfl); (have hx := block_kept hb HX.out); (have x0 := cell_at hx (i := 0) rfl); (have x1 := cell_at hx (i := 1) rfl); (have x2 := cell_at hx (i := 2) rfl); (have d1 := cell_kept hb a1); (have d2 := cell_kept hb a2); clear hb hy hx hsc a1 a2)
                  | (go_at_call 23; refine (refsmall_any _ _ _ (by omega) (by omega)).mono ?_; rintro e w' ⟨rfl, rfl⟩))
                clear d1 d2
                go_loop [7] (fun i => ∃ k : Nat, i = .int .i64 k ∧ k ≤ c.scope.length ∧ Hid (argsB c.scope.length 0 c.args = argsB c.scope.length k (c.args.drop k))) (fun i => c.scope.length - (intOf i).toNat)
                case atStart => exact ⟨0, rfl, by omega, Lib.hid rfl⟩
                case round =>
                  obtain ⟨k, rfl, hk, H⟩ := hrel
                  by_cases hkl : k < c.scope.length
                  · obtain ⟨b', o', he, a3⟩ := HA.out.elems.num (j := k) (by omega)
                    injection he with he
                    injection he with he1 he2
                    subst he1 he2
                    have d3 := cell_kept HB2.out a3
                    have hka : k < c.args.length := by omega
                    have H' : Hid (argsB c.scope.length k (c.args.drop k) = (!(decide (k < c.scope.length) && decide (nth 0 c.args k = 0)) && smallB (nth 0 c.args k) 1000000 && argsB c.scope.length (k + 1) (c.args.drop (k + 1)))) := by
                      rw [drop_cons c.args 0 k (by omega), argsB]; exact Lib.hid rfl
                    by_cases hz : nth 0 c.args k = 0
                    · have hzb : (nth 0 c.args k == 0) = true := by simpa using hz
                      have hf3 : linearB c = false := by unfold linearB; rw [H.out, H'.out, hz]; simp [hkl]
                      have HF3 := Lib.hid hf3
                      clear hf3 hz
                      go_wp2_with fail
                      go_ret
                      exact ⟨ret_bool (by rw [HF.out, HF3.out]), below_next HB.out HB2.out⟩
                    · have hzb : (nth 0 c.args k == 0) = false := by simpa using hz
                      have HZ := Lib.hid hz
                      clear hz
                      cases hsm : smallB (nth 0 c.args k) 1000000
                      · have hf3 : linearB c = false := by unfold linearB; rw [H.out, H'.out, hsm]; simp
                        have HF3 := Lib.hid hf3
                        clear hf3
                        go_wp2_with (go_at_call 23; refine (refsmall_any _ _ _ (by omega) (by omega)).mono ?_; rintro e w' ⟨rfl, rfl⟩)
                        go_ret
                        exact ⟨ret_bool (by rw [HF.out, HF3.out]), below_next HB.out HB2.out⟩
                      · go_wp2_with (go_at_call 23; refine (refsmall_any _ _ _ (by omega) (by omega)).mono ?_; rintro e w' ⟨rfl, rfl⟩)
                        go_round
                        case rel => exact ⟨k + 1, by go_num, by omega, Lib.hid (by rw [H.out, H'.out, hsm, decide_eq_false HZ.out]; simp)⟩
                        case measure => simp [intOf]; omega
                  · have hkn : k = c.scope.length := by omega
                    have hs0 : smallB (nth 0 c.args c.scope.length) 1000000 = true := by simp [smallB]; omega
                    have hf3 : linearB c = true := by
                      unfold linearB
                      rw [H.out, hkn, drop_cons c.args 0 c.scope.length (by omega), drop_cons c.args 0 (c.scope.length + 1) (by omega), List.drop_eq_nil_of_le (by have := HL.out; omega)]
                      simp [argsB, HL.out, q1, q2, hs0, Q3.out]
                    have HF3 := Lib.hid hf3
                    clear hf3 hkn hs0
                    have HRR : Hid (rowsB x.doms c.scope none c.rows = true) := Lib.hid (by rw [HRN.out]; rfl)
                    go_wp2_with fail
                    refine (refrows_any (.slice AD x.doms.length cD) vH vS (.slice As c.scope.length cs) (.slice Ar c.rows.length cr) x.doms c.scope c.rows ok w2 (HD.out.below (by decide) HB2.out) (HS.out.below (by decide) HB2.out) (HR.out.below (by decide) HB2.out) HSC.out).mono ?_
                    rintro e w3 ⟨rfl, hb3⟩
                    go_wp2_with fail
                    go_ret
                    exact ⟨ret_bool (by rw [HF.out, HF3.out, HRR.out]), below_next HB.out (below_next HB2.out hb3)⟩
            · have hf2 : linearB c = false := by simp [linearB, q2]
              have HF2 := Lib.hid hf2
              clear hf2
              go_wp2_with (first
                | (go_at_call 49; refine hsc.out.mono ?_; rintro e w2 ⟨rfl, hb⟩; (have HB2 := Lib.hid hb); (have hy := block_kept hb HY.out); (have y0 := cell_at hy (i := 0) rfl); (have y1 := cell_at hy (i := 1) rfl); (have y2 := cell_at hy (i := 2) rfl); (have y3 := cell_at hy (i := 3) rfl); (have hx := block_kept hb HX.out); (have x0 := cell_at hx (i := 0) rfl); (have x1 := cell_at hx (i := 1) rfl); (have x2 := cell_at hx (i := 2) rfl); (have d1 := cell_kept hb a1); (have d2 := cell_kept hb a2); clear hb hy hx hsc a1 a2)
                | (go_at_call 23; refine (refsmall_any _ _ _ (by omega) (by omega)).mono ?_; rintro e w' ⟨rfl, rfl⟩))
              go_ret
              exact ⟨ret_bool (by rw [HF.out, HF2.out]), below_next HB.out HB2.out⟩
          · have hf2 : linearB c = false := by simp [linearB, q1]
            have HF2 := Lib.hid hf2
            clear hf2
            go_wp2_with (first
              | (go_at_call 49; refine hsc.out.mono ?_; rintro e w2 ⟨rfl, hb⟩; (have HB2 := Lib.hid hb); (have hy := block_kept hb HY.out); (have y0 := cell_at hy (i := 0) rfl); (have y1 := cell_at hy (i := 1) rfl); (have y2 := cell_at hy (i := 2) rfl); (have y3 := cell_at hy (i := 3) rfl); (have hx := block_kept hb HX.out); (have x0 := cell_at hx (i := 0) rfl); (have x1 := cell_at hx (i := 1) rfl); (have x2 := cell_at hx (i := 2) rfl); (have d1 := cell_kept hb a1); (have d2 := cell_kept hb a2); clear hb hy hx hsc a1 a2)
              | (go_at_call 23; refine (refsmall_any _ _ _ (by omega) (by omega)).mono ?_; rintro e w' ⟨rfl, rfl⟩))
            go_ret
            exact ⟨ret_bool (by rw [HF.out, HF2.out]), below_next HB.out HB2.out⟩
        · have hlb : ((c.args.length : Int) != c.scope.length + 2) = true := by simp; omega
          have hf2 : linearB c = false := by simp [linearB, hl]
          have HF2 := Lib.hid hf2
          clear hf2 hl h6
          go_wp2_with (go_at_call 49; refine hsc.out.mono ?_; rintro e w2 ⟨rfl, hb⟩; (have HB2 := Lib.hid hb); (have hy := block_kept hb HY.out); (have y0 := cell_at hy (i := 0) rfl); (have y1 := cell_at hy (i := 1) rfl); (have y2 := cell_at hy (i := 2) rfl); (have y3 := cell_at hy (i := 3) rfl); (have hx := block_kept hb HX.out); (have x0 := cell_at hx (i := 0) rfl); (have x1 := cell_at hx (i := 1) rfl); (have x2 := cell_at hx (i := 2) rfl); clear hb hy hx hsc)
          go_ret
          exact ⟨ret_bool (by rw [HF.out, HF2.out]), below_next HB.out HB2.out⟩
      · have hr0 : c.args.length = 0 := by
          by_cases h : 0 < c.args.length
          · exact absurd ⟨h6, h⟩ k4
          · omega
        have hf : hardB x c = rowsB x.doms c.scope none c.rows := by
          have : (decide (2 < c.kind) && decide (0 < c.rows.length)) = false := by
            rw [Bool.and_eq_false_iff, decide_eq_false_iff_not, decide_eq_false_iff_not]; omega
          simp [hardB, hs, h6, hr0, k1, k6, this]
        have HF := Lib.hid hf
        have k6b : (c.kind == 6) = false := by simpa using h6
        have k6c : (c.kind != 6) = true := by simpa using h6
        have k9 : ¬ 0 < c.args.length := by omega
        clear hs hf k4 hr0 h6
        by_cases k7 : 2 < c.kind
        · have k8 : ¬ 0 < c.rows.length := fun h => k2 ⟨k7, h⟩
          clear k2
          go_wp2_with (go_at_call 49; refine hsc.out.mono ?_; rintro e w2 ⟨rfl, hb⟩; (have HB2 := Lib.hid hb); (have hy := block_kept hb HY.out); (have y0 := cell_at hy (i := 0) rfl); (have y1 := cell_at hy (i := 1) rfl); (have y2 := cell_at hy (i := 2) rfl); (have y3 := cell_at hy (i := 3) rfl); (have hx := block_kept hb HX.out); (have x0 := cell_at hx (i := 0) rfl); (have x1 := cell_at hx (i := 1) rfl); (have x2 := cell_at hx (i := 2) rfl); clear hb hy hx hsc)
          refine (refrows_any (.slice AD x.doms.length cD) vH vS (.slice As c.scope.length cs) (.slice Ar c.rows.length cr) x.doms c.scope c.rows ok w2 (HD.out.below (by decide) HB2.out) (HS.out.below (by decide) HB2.out) (HR.out.below (by decide) HB2.out) HSC.out).mono ?_
          rintro e w3 ⟨rfl, hb3⟩
          go_wp2_with fail
          go_ret
          exact ⟨ret_bool HF.out.symm, below_next HB.out (below_next HB2.out hb3)⟩
        · clear k2
          go_wp2_with (go_at_call 49; refine hsc.out.mono ?_; rintro e w2 ⟨rfl, hb⟩; (have HB2 := Lib.hid hb); (have hy := block_kept hb HY.out); (have y0 := cell_at hy (i := 0) rfl); (have y1 := cell_at hy (i := 1) rfl); (have y2 := cell_at hy (i := 2) rfl); (have y3 := cell_at hy (i := 3) rfl); (have hx := block_kept hb HX.out); (have x0 := cell_at hx (i := 0) rfl); (have x1 := cell_at hx (i := 1) rfl); (have x2 := cell_at hx (i := 2) rfl); clear hb hy hx hsc)
          refine (refrows_any (.slice AD x.doms.length cD) vH vS (.slice As c.scope.length cs) (.slice Ar c.rows.length cr) x.doms c.scope c.rows ok w2 (HD.out.below (by decide) HB2.out) (HS.out.below (by decide) HB2.out) (HR.out.below (by decide) HB2.out) HSC.out).mono ?_
          rintro e w3 ⟨rfl, hb3⟩
          go_wp2_with fail
          go_ret
          exact ⟨ret_bool HF.out.symm, below_next HB.out (below_next HB2.out hb3)⟩
    · have hf : hardB x c = false := by
        cases hh : hardB x c
        · rfl
        · exfalso
          apply hg
          simp only [hardB, Bool.and_eq_true, decide_eq_true_eq, Bool.not_eq_true', Bool.and_eq_false_iff, decide_eq_false_iff_not] at hh
          obtain ⟨⟨⟨⟨_, h1⟩, h6⟩, hr⟩, ht⟩ := hh
          refine ⟨h1, h6, by omega, ?_⟩
          rintro ⟨h, ha⟩
          rw [if_neg h] at ht
          simp only [Bool.and_eq_true, decide_eq_true_eq] at ht
          omega
      have HF := Lib.hid hf
      clear hs hf
      by_cases k1 : 1 ≤ c.kind
      · by_cases k6 : c.kind ≤ 6
        · by_cases k2 : 2 < c.kind ∧ 0 < c.rows.length
          · obtain ⟨k2, k3⟩ := k2
            clear hg
            go_wp2_with (go_at_call 49; refine hsc.out.mono ?_; rintro e w2 ⟨rfl, hb⟩; (have HB2 := Lib.hid hb); (have hy := block_kept hb HY.out); (have y0 := cell_at hy (i := 0) rfl); (have y1 := cell_at hy (i := 1) rfl); (have y2 := cell_at hy (i := 2) rfl); (have y3 := cell_at hy (i := 3) rfl); (have hx := block_kept hb HX.out); (have x0 := cell_at hx (i := 0) rfl); (have x1 := cell_at hx (i := 1) rfl); (have x2 := cell_at hx (i := 2) rfl); clear hb hy hx hsc)
            go_ret
            exact ⟨ret_bool HF.out.symm, below_next HB.out HB2.out⟩
          · obtain ⟨k4, k5⟩ : c.kind ≠ 6 ∧ 0 < c.args.length := by
              by_cases h : c.kind ≠ 6 ∧ 0 < c.args.length
              · exact h
              · exact absurd ⟨k1, k6, k2, h⟩ hg
            have k4b : (c.kind != 6) = true := by simpa using k4
            clear hg
            by_cases k7 : 2 < c.kind
            · have k8 : ¬ 0 < c.rows.length := fun h => k2 ⟨k7, h⟩
              clear k2
              go_wp2_with (go_at_call 49; refine hsc.out.mono ?_; rintro e w2 ⟨rfl, hb⟩; (have HB2 := Lib.hid hb); (have hy := block_kept hb HY.out); (have y0 := cell_at hy (i := 0) rfl); (have y1 := cell_at hy (i := 1) rfl); (have y2 := cell_at hy (i := 2) rfl); (have y3 := cell_at hy (i := 3) rfl); (have hx := block_kept hb HX.out); (have x0 := cell_at hx (i := 0) rfl); (have x1 := cell_at hx (i := 1) rfl); (have x2 := cell_at hx (i := 2) rfl); clear hb hy hx hsc)
              go_ret
              exact ⟨ret_bool HF.out.symm, below_next HB.out HB2.out⟩
            · clear k2
              go_wp2_with (go_at_call 49; refine hsc.out.mono ?_; rintro e w2 ⟨rfl, hb⟩; (have HB2 := Lib.hid hb); (have hy := block_kept hb HY.out); (have y0 := cell_at hy (i := 0) rfl); (have y1 := cell_at hy (i := 1) rfl); (have y2 := cell_at hy (i := 2) rfl); (have y3 := cell_at hy (i := 3) rfl); (have hx := block_kept hb HX.out); (have x0 := cell_at hx (i := 0) rfl); (have x1 := cell_at hx (i := 1) rfl); (have x2 := cell_at hx (i := 2) rfl); clear hb hy hx hsc)
              go_ret
              exact ⟨ret_bool HF.out.symm, below_next HB.out HB2.out⟩
        · clear hg
          go_wp2_with (go_at_call 49; refine hsc.out.mono ?_; rintro e w2 ⟨rfl, hb⟩; (have HB2 := Lib.hid hb); (have hy := block_kept hb HY.out); (have y0 := cell_at hy (i := 0) rfl); (have y1 := cell_at hy (i := 1) rfl); (have y2 := cell_at hy (i := 2) rfl); (have y3 := cell_at hy (i := 3) rfl); (have hx := block_kept hb HX.out); (have x0 := cell_at hx (i := 0) rfl); (have x1 := cell_at hx (i := 1) rfl); (have x2 := cell_at hx (i := 2) rfl); clear hb hy hx hsc)
          go_ret
          exact ⟨ret_bool HF.out.symm, below_next HB.out HB2.out⟩
      · clear hg
        go_wp2_with (go_at_call 49; refine hsc.out.mono ?_; rintro e w2 ⟨rfl, hb⟩; (have HB2 := Lib.hid hb); (have hy := block_kept hb HY.out); (have y0 := cell_at hy (i := 0) rfl); (have y1 := cell_at hy (i := 1) rfl); (have y2 := cell_at hy (i := 2) rfl); (have y3 := cell_at hy (i := 3) rfl); (have hx := block_kept hb HX.out); (have x0 := cell_at hx (i := 0) rfl); (have x1 := cell_at hx (i := 1) rfl); (have x2 := cell_at hx (i := 2) rfl); clear hb hy hx hsc)
        go_ret
        exact ⟨ret_bool HF.out.symm, below_next HB.out HB2.out⟩
end Go.Proofs.YtoahaigfjfeopaaGreatDoor

/- arboristref06.soft. -/
namespace Go.Proofs.YtoahaigfjfeopaaGreatDoor
open Go.RowKit
attribute [local irreducible] wpStill wpLex Calls

theorem wideAny_drop (l : List Int) (k : Nat) (h : k < l.length) : wideAny (l.drop k) = (!smallB (nth 0 l k) 1000000000000 || wideAny (l.drop (k + 1))) := by
  rw [drop_cons l 0 k h]; rfl
set_option maxRecDepth 100000 in
set_option maxHeartbeats 8000000 in
theorem refsoft_any (vD vH vS vs vr va : Value) (x : Ins) (c : Sft) (ok : Nat → Prop) (w : World) (hD : Sl kRow w ok vD x.doms) (h1 : Sl (Kd.int .i64) w ok vs c.scope) (h2 : Sl kRow w ok vr c.rows) (h3 : Sl (Kd.int .i64) w ok va c.costs) :
    Calls Tryz.prog 25 #[.agg #[vD, vH, vS], .agg #[vs, vr, va, .int .i64 c.dflt]] w fun e w' => e = .returned (.bool (softB x c)) ∧ Below w.heap.size w w' := by
  obtain ⟨AD, cD, rfl, hcD, hmD, hAD⟩ := hD
  obtain ⟨As, cs, rfl, hcs, hms, hAs⟩ := h1
  obtain ⟨Ar, cr, rfl, hcr, hmr, hAr⟩ := h2
  obtain ⟨Aa, ca, rfl, hca, hma, hAa⟩ := h3
  have HB := Lib.hid (below_next (below_alloc1 w (.cells #[.slice AD x.doms.length cD, vH, vS] 26)) (below_alloc1 _ (.cells #[.slice As c.scope.length cs, .slice Ar c.rows.length cr, .slice Aa c.costs.length ca, .int .i64 c.dflt] 47)))
  have HD := Lib.hid (Sl.below (v := .slice AD x.doms.length cD) (xs := x.doms) (by decide) ⟨AD, cD, rfl, hcD, hmD, hAD⟩ HB.out)
  have HS := Lib.hid (Sl.below (v := .slice As c.scope.length cs) (xs := c.scope) (by decide) ⟨As, cs, rfl, hcs, hms, hAs⟩ HB.out)
  have HR := Lib.hid (Sl.below (v := .slice Ar c.rows.length cr) (xs := c.rows) (by decide) ⟨Ar, cr, rfl, hcr, hmr, hAr⟩ HB.out)
  have HA := Lib.hid (Sl.below (v := .slice Aa c.costs.length ca) (xs := c.costs) (by decide) ⟨Aa, ca, rfl, hca, hma, hAa⟩ HB.out)
  have HX := Lib.hid (block_kept (below_alloc1 _ (.cells #[.slice As c.scope.length cs, .slice Ar c.rows.length cr, .slice Aa c.costs.length ca, .int .i64 c.dflt] 47)) (heap_alloc_new w (.cells #[.slice AD x.doms.length cD, vH, vS] 26)))
  have hy : ((w.alloc (.cells #[.slice AD x.doms.length cD, vH, vS] 26)).alloc (.cells #[.slice As c.scope.length cs, .slice Ar c.rows.length cr, .slice Aa c.costs.length ca, .int .i64 c.dflt] 47)).heap[w.heap.size + 1]? = some (.cells #[.slice As c.scope.length cs, .slice Ar c.rows.length cr, .slice Aa c.costs.length ca, .int .i64 c.dflt] 47) := by
    have := heap_alloc_new (w.alloc (.cells #[.slice AD x.doms.length cD, vH, vS] 26)) (.cells #[.slice As c.scope.length cs, .slice Ar c.rows.length cr, .slice Aa c.costs.length ca, .int .i64 c.dflt] 47)
    simpa using this
  have HY := Lib.hid hy
  have hsc := Lib.hid (refscope_any (.slice AD x.doms.length cD) vH vS (.slice As c.scope.length cs) x.doms c.scope ok _ HD.out HS.out)
  clear hAD hAs hAr hAa hcD hmD hcs hcr hca hy
  go_enter Tryz.func25, Tryz.ntmps25
  cases hs : scopeB x.doms.length c.scope
  · rw [hs] at hsc
    have hf : softB x c = false := by simp [softB, hs]
    have HF := Lib.hid hf
    clear hs hf
    go_wp2_with (go_at_call 49; refine hsc.out.mono ?_; rintro e w2 ⟨rfl, hb⟩; (have HB2 := Lib.hid hb); (have hy := block_kept hb HY.out); (have y0 := cell_at hy (i := 0) rfl); (have y1 := cell_at hy (i := 1) rfl); (have y2 := cell_at hy (i := 2) rfl); (have y3 := cell_at hy (i := 3) rfl); (have hx := block_kept hb HX.out); (have x0 := cell_at hx (i := 0) rfl); (have x1 := cell_at hx (i := 1) rfl); (have x2 := cell_at hx (i := 2) rfl); clear hb hy hx hsc)
    go_ret
    exact ⟨ret_bool HF.out.symm, below_next HB.out HB2.out⟩
  · rw [hs] at hsc
    have HSC := Lib.hid (scopeB_range hs)
    by_cases hl : c.costs.length = c.rows.length
    · have hlb : ((c.costs.length : Int) != c.rows.length) = false := by simp; omega
      by_cases hd1 : -1000000000000 ≤ c.dflt
      · by_cases hd2 : c.dflt ≤ 1000000000000
        · have hsm : smallB c.dflt 1000000000000 = true := by simp [smallB, hd1, hd2]
          have hf : softB x c = (!wideAny c.costs && rowsB x.doms c.scope none c.rows) := by simp [softB, hs, hl, hsm]
          have HF := Lib.hid hf
          clear hs hf hl hsm
          go_wp2_with (go_at_call 49; refine hsc.out.mono ?_; rintro e w2 ⟨rfl, hb⟩; (have HB2 := Lib.hid hb); (have hy := block_kept hb HY.out); (have y0 := cell_at hy (i := 0) rfl); (have y1 := cell_at hy (i := 1) rfl); (have y2 := cell_at hy (i := 2) rfl); (have y3 := cell_at hy (i := 3) rfl); (have hx := block_kept hb HX.out); (have x0 := cell_at hx (i := 0) rfl); (have x1 := cell_at hx (i := 1) rfl); (have x2 := cell_at hx (i := 2) rfl); clear hb hy hx hsc)
          go_loop [6] (fun i => ∃ k : Nat, i = .int .i64 k ∧ k ≤ c.costs.length ∧ Hid (wideAny c.costs = wideAny (c.costs.drop k))) (fun i => c.costs.length - (intOf i).toNat)
          case atStart => exact ⟨0, rfl, by omega, Lib.hid rfl⟩
          case round =>
            obtain ⟨k, rfl, hk, H⟩ := hrel
            by_cases hkl : k < c.costs.length
            · obtain ⟨b', o', rfl, a3⟩ := HA.out.elems.num hkl
              have d3 := cell_kept HB2.out a3
              have H' := Lib.hid (wideAny_drop c.costs k hkl)
              by_cases q1 : -1000000000000 ≤ nth 0 c.costs k
              · by_cases q2 : nth 0 c.costs k ≤ 1000000000000
                · have hsm : smallB (nth 0 c.costs k) 1000000000000 = true := by simp [smallB, q1, q2]
                  have HSM := Lib.hid hsm
                  clear hsm
                  go_wp2_with fail
                  go_round
                  case rel => exact ⟨k + 1, by go_num, by omega, Lib.hid (by rw [H.out, H'.out, HSM.out]; simp)⟩
                  case measure => simp [intOf]; omega
                · have hsm : smallB (nth 0 c.costs k) 1000000000000 = false := by simp [smallB, q2]
                  have hf3 : softB x c = false := by rw [HF.out, H.out, H'.out, hsm]; simp
                  have HF3 := Lib.hid hf3
                  clear hsm hf3
                  go_wp2_with fail
                  go_ret
                  exact ⟨ret_bool HF3.out.symm, below_next HB.out HB2.out⟩
              · have hsm : smallB (nth 0 c.costs k) 1000000000000 = false := by simp [smallB, q1]
                have hf3 : softB x c = false := by rw [HF.out, H.out, H'.out, hsm]; simp
                have HF3 := Lib.hid hf3
                clear hsm hf3
                go_wp2_with fail
                go_ret
                exact ⟨ret_bool HF3.out.symm, below_next HB.out HB2.out⟩
            · have hf3 : softB x c = rowsB x.doms c.scope none c.rows := by rw [HF.out, H.out, List.drop_eq_nil_of_le (by omega)]; simp [wideAny]
              have HF3 := Lib.hid hf3
              clear hf3
              go_wp2_with fail
              refine (refrows_any (.slice AD x.doms.length cD) vH vS (.slice As c.scope.length cs) (.slice Ar c.rows.length cr) x.doms c.scope c.rows ok w2 (HD.out.below (by decide) HB2.out) (HS.out.below (by decide) HB2.out) (HR.out.below (by decide) HB2.out) HSC.out).mono ?_
              rintro e w3 ⟨rfl, hb3⟩
              go_wp2_with fail
              go_ret
              exact ⟨ret_bool HF3.out.symm, below_next HB.out (below_next HB2.out hb3)⟩
        · have hf : softB x c = false := by simp [softB, smallB, hd2]
          have HF := Lib.hid hf
          clear hs hf hl
          go_wp2_with (go_at_call 49; refine hsc.out.mono ?_; rintro e w2 ⟨rfl, hb⟩; (have HB2 := Lib.hid hb); (have hy := block_kept hb HY.out); (have y0 := cell_at hy (i := 0) rfl); (have y1 := cell_at hy (i := 1) rfl); (have y2 := cell_at hy (i := 2) rfl); (have y3 := cell_at hy (i := 3) rfl); (have hx := block_kept hb HX.out); (have x0 := cell_at hx (i := 0) rfl); (have x1 := cell_at hx (i := 1) rfl); (have x2 := cell_at hx (i := 2) rfl); clear hb hy hx hsc)
          go_ret
          exact ⟨ret_bool HF.out.symm, below_next HB.out HB2.out⟩
      · have hf : softB x c = false := by simp [softB, smallB, hd1]
        have HF := Lib.hid hf
        clear hs hf hl
        go_wp2_with (go_at_call 49; refine hsc.out.mono ?_; rintro e w2 ⟨rfl, hb⟩; (have HB2 := Lib.hid hb); (have hy := block_kept hb HY.out); (have y0 := cell_at hy (i := 0) rfl); (have y1 := cell_at hy (i := 1) rfl); (have y2 := cell_at hy (i := 2) rfl); (have y3 := cell_at hy (i := 3) rfl); (have hx := block_kept hb HX.out); (have x0 := cell_at hx (i := 0) rfl); (have x1 := cell_at hx (i := 1) rfl); (have x2 := cell_at hx (i := 2) rfl); clear hb hy hx hsc)
        go_ret
        exact ⟨ret_bool HF.out.symm, below_next HB.out HB2.out⟩
    · have hlb : ((c.costs.length : Int) != c.rows.length) = true := by simp; omega
      have hf : softB x c = false := by simp [softB, hl]
      have HF := Lib.hid hf
      clear hs hf hl
      go_wp2_with (go_at_call 49; refine hsc.out.mono ?_; rintro e w2 ⟨rfl, hb⟩; (have HB2 := Lib.hid hb); (have hy := block_kept hb HY.out); (have y0 := cell_at hy (i := 0) rfl); (have y1 := cell_at hy (i := 1) rfl); (have y2 := cell_at hy (i := 2) rfl); (have y3 := cell_at hy (i := 3) rfl); (have hx := block_kept hb HX.out); (have x0 := cell_at hx (i := 0) rfl); (have x1 := cell_at hx (i := 1) rfl); (have x2 := cell_at hx (i := 2) rfl); clear hb hy hx hsc)
      go_ret
      exact ⟨ret_bool HF.out.symm, below_next HB.out HB2.out⟩
end Go.Proofs.YtoahaigfjfeopaaGreatDoor

/- arboristref06.Right. -/
namespace Go.Proofs.YtoahaigfjfeopaaGreatDoor
open Go.RowKit
attribute [local irreducible] wpStill wpLex Calls

theorem all_drop {α : Type} (z : α) (p : α → Bool) (l : List α) (k : Nat) (h : k < l.length) : (l.drop k).all p = (p (nth z l k) && (l.drop (k + 1)).all p) := by
  rw [drop_cons l z k h]; rfl
theorem all_take {α : Type} (z : α) (p : α → Bool) (l : List α) (k : Nat) (h : k < l.length) : (l.take (k + 1)).all p = ((l.take k).all p && p (nth z l k)) := by
  rw [take_snoc z l k h, List.all_append]; simp
set_option maxRecDepth 100000 in
set_option maxHeartbeats 8000000 in
theorem refright_any (vD vH vS : Value) (x : Ins) (ok : Nat → Prop) (w : World) (hD : Sl kRow w ok vD x.doms) (hH : Sl kCon w ok vH x.hard) (hS : Sl kSft w ok vS x.soft) :
    Calls Tryz.prog 13 #[.agg #[vD, vH, vS]] w fun e w' => e = .returned (.bool (rightB x)) ∧ Below w.heap.size w w' := by
  obtain ⟨AD, cD, rfl, hcD, hmD, hAD⟩ := hD
  obtain ⟨AH, cH, rfl, hcH, hmH, hAH⟩ := hH
  obtain ⟨AS, cS, rfl, hcS, hmS, hAS⟩ := hS
  have HB := Lib.hid (below_alloc1 w (.cells #[.slice AD x.doms.length cD, .slice AH x.hard.length cH, .slice AS x.soft.length cS] 26))
  have HD := Lib.hid (Sl.below (v := .slice AD x.doms.length cD) (xs := x.doms) (by decide) ⟨AD, cD, rfl, hcD, hmD, hAD⟩ HB.out)
  have HH := Lib.hid (Sl.below (v := .slice AH x.hard.length cH) (xs := x.hard) (by decide) ⟨AH, cH, rfl, hcH, hmH, hAH⟩ HB.out)
  have HS := Lib.hid (Sl.below (v := .slice AS x.soft.length cS) (xs := x.soft) (by decide) ⟨AS, cS, rfl, hcS, hmS, hAS⟩ HB.out)
  have HX := Lib.hid (heap_alloc_new w (.cells #[.slice AD x.doms.length cD, .slice AH x.hard.length cH, .slice AS x.soft.length cS] 26))
  clear hAD hAH hAS
  by_cases hg : x.doms.length ≤ 40 ∧ x.hard.length ≤ 200 ∧ x.soft.length ≤ 200
  · obtain ⟨g1, g2, g3⟩ := hg
    have hf : rightB x = (x.doms.all domainB && x.hard.all (hardB x) && x.soft.all (softB x)) := by simp [rightB, g1, g2, g3]
    have HF := Lib.hid hf
    clear hf
    go_enter Tryz.func13, Tryz.ntmps13
    go_wp2_with fail
    generalize w.alloc (.cells #[.slice AD x.doms.length cD, .slice AH x.hard.length cH, .slice AS x.soft.length cS] 26) = W0 at *
    go_loopw [3, 4] (fun i _ wr => ∃ k : Nat, i = .int .i64 k ∧ k ≤ x.doms.length ∧ Hid (x.doms.all domainB = (x.doms.drop k).all domainB) ∧ Hid (Below W0.heap.size W0 wr)) (fun i _ _ => x.doms.length - (intOf i).toNat)
    case atStart => exact ⟨0, rfl, by omega, Lib.hid rfl, Lib.hid (Below.refl _ _)⟩
    case round =>
      obtain ⟨k, rfl, hk, H, HW⟩ := hrel
      have hx := block_kept HW.out HX.out
      have x0 := cell_at hx (i := 0) rfl
      have x1 := cell_at hx (i := 1) rfl
      have x2 := cell_at hx (i := 2) rfl
      by_cases hkl : k < x.doms.length
      · obtain ⟨b, o, vt, rfl, c1, ht⟩ := HD.out.elems.row hkl
        have c1 := cell_kept HW.out c1
        have HT := Lib.hid (ht.below (by decide) HW.out)
        obtain ⟨At, ct, rfl, hct, hmt, _⟩ := ht
        have H' := Lib.hid (all_drop [] domainB x.doms k hkl)
        generalize nth [] x.doms k = d at *
        have HRI := Lib.hid (refrising_any _ _ _ _ HT.out)
        clear hx
        have bad : domainB d = false → Hid (rightB x = false) := fun h => Lib.hid (by rw [HF.out, H.out, H'.out, h]; simp)
        by_cases q0 : 0 < d.length
        · by_cases q1 : d.length ≤ 16
          · obtain ⟨b2, o2, rfl, c2⟩ := HT.out.elems.num q0
            obtain ⟨b3, o3, he, c3⟩ := HT.out.elems.num (j := d.length - 1) (by omega)
            injection he with he
            injection he with he1 he2
            subst he1 he2
            simp only [Nat.add_zero] at c2
            have hs0 : IntKind.i64.wrap ((d.length:Int) - 1) = (d.length:Int) - 1 := IntWalk.i64_in _ (by omega)
            have hs1 : ((d.length:Int) - 1).toNat = d.length - 1 := by omega
            have hs2 : ¬ d.length < 1 := by omega
            cases q2 : risingB d
            · have HBAD := bad (by simp [domainB, q2])
              rw [q2] at HRI
              clear bad q2 c2 c3
              go_wp2_with (first
                | (go_at_call 22; refine HRI.out.mono ?_; rintro e w3 ⟨rfl, n, rfl⟩; (have HW3 := Lib.hid (below_drewN HW.out n)); clear HRI)
                | (go_at_call 23; refine (refsmall_any _ _ _ (by omega) (by omega)).mono ?_; rintro e w' ⟨rfl, rfl⟩))
              go_ret
              exact ⟨ret_bool HBAD.out.symm, HB.out.trans (HW3.out.mono HB.out.size)⟩
            · rw [q2] at HRI
              cases q3 : smallB (nth 0 d 0) 1000000
              · have HBAD := bad (by simp [domainB, q3])
                clear bad q2 c3
                go_wp2_with (first
                  | (go_at_call 22; refine HRI.out.mono ?_; rintro e w3 ⟨rfl, n, rfl⟩; (have HW3 := Lib.hid (below_drewN HW.out n)); clear HRI)
                  | (go_at_call 23; refine (refsmall_any _ _ _ (by omega) (by omega)).mono ?_; rintro e w' ⟨rfl, rfl⟩))
                go_ret
                exact ⟨ret_bool HBAD.out.symm, HB.out.trans (HW3.out.mono HB.out.size)⟩
              · cases q4 : smallB (nth 0 d (d.length - 1)) 1000000
                · have HBAD := bad (by simp [domainB, q4])
                  clear bad q2
                  go_wp2_with (first
                    | (go_at_call 22; refine HRI.out.mono ?_; rintro e w3 ⟨rfl, n, rfl⟩; (have HW3 := Lib.hid (below_drewN HW.out n)); clear HRI)
                    | (go_at_call 23; refine (refsmall_any _ _ _ (by omega) (by omega)).mono ?_; rintro e w' ⟨rfl, rfl⟩))
                  go_ret
                  exact ⟨ret_bool HBAD.out.symm, HB.out.trans (HW3.out.mono HB.out.size)⟩
                · have hgood : domainB d = true := by simp [domainB, q0, q1, q2, q3, q4]
                  have HGO := Lib.hid hgood
                  clear bad q2 hgood
                  go_wp2_with (first
                    | (go_at_call 22; refine HRI.out.mono ?_; rintro e w3 ⟨rfl, n, rfl⟩; (have HW3 := Lib.hid (below_drewN HW.out n)); clear HRI)
                    | (go_at_call 23; refine (refsmall_any _ _ _ (by omega) (by omega)).mono ?_; rintro e w' ⟨rfl, rfl⟩))
                  go_roundw
                  case rel => exact ⟨k + 1, by go_num, by omega, Lib.hid (by rw [H.out, H'.out, HGO.out, Bool.true_and]), HW3⟩
                  case measure => simp [intOf]; omega
          · have hs2 : ¬ d.length < 1 := by omega
            have HBAD := bad (by simp [domainB, q1])
            clear bad
            go_wp2_with (first
              | (go_at_call 22; refine HRI.out.mono ?_; rintro e w3 ⟨rfl, n, rfl⟩; (have HW3 := Lib.hid (below_drewN HW.out n)); clear HRI)
              | (go_at_call 23; refine (refsmall_any _ _ _ (by omega) (by omega)).mono ?_; rintro e w' ⟨rfl, rfl⟩))
            go_ret
            exact ⟨ret_bool HBAD.out.symm, HB.out.trans (HW.out.mono HB.out.size)⟩
        · have hs2 : d.length < 1 := by omega
          have HBAD := bad (by simp [domainB, q0])
          clear bad
          go_wp2_with (first
            | (go_at_call 22; refine HRI.out.mono ?_; rintro e w3 ⟨rfl, n, rfl⟩; (have HW3 := Lib.hid (below_drewN HW.out n)); clear HRI)
            | (go_at_call 23; refine (refsmall_any _ _ _ (by omega) (by omega)).mono ?_; rintro e w' ⟨rfl, rfl⟩))
          go_ret
          exact ⟨ret_bool HBAD.out.symm, HB.out.trans (HW.out.mono HB.out.size)⟩
      · have hall : x.doms.all domainB = true := by rw [H.out, List.drop_eq_nil_of_le (by omega)]; rfl
        have HF2 : Hid (rightB x = (x.hard.all (hardB x) && x.soft.all (softB x))) := Lib.hid (by rw [HF.out, hall, Bool.true_and])
        clear hall hx H HF
        go_wp2_with fail
        clear x0 x1 x2
        go_loopw [5, 6, 7] (fun okv i _ wr => ∃ k : Nat, i = .int .i64 k ∧ k ≤ x.hard.length ∧ okv = .bool ((x.hard.take k).all (hardB x)) ∧ Hid (Below W0.heap.size W0 wr)) (fun _ i _ _ => x.hard.length - (intOf i).toNat)
        case atStart => exact ⟨0, rfl, by omega, rfl, HW⟩
        case round =>
          obtain ⟨k2, rfl, hk2, rfl, HW2⟩ := hrel
          have hx := block_kept HW2.out HX.out
          by_cases hkl2 : k2 < x.hard.length
          · have y1 := cell_at hx (i := 1) rfl
            have hbd := below_next HW2.out (Below.drew (Below.refl _ _))
            have hx3 := block_kept hbd HX.out
            have x0 := cell_at hx3 (i := 0) rfl
            have x1 := cell_at hx3 (i := 1) rfl
            have x2 := cell_at hx3 (i := 2) rfl
            obtain ⟨b, o, cs, rfl, _, hK, hcell⟩ := HH.out.elems k2 (nth default x.hard k2) (nth_get default x.hard k2 hkl2)
            obtain ⟨vs, vr, va, rfl, e1, e2, e3⟩ := kCon_cells hK
            have f0 := cell_kept hbd (hcell 0 _ rfl)
            have f1 := cell_kept hbd (hcell 1 _ rfl)
            have f2 := cell_kept hbd (hcell 2 _ rfl)
            have f3 := cell_kept hbd (hcell 3 _ rfl)
            simp only [show kCon.sz = 4 from rfl, Nat.add_zero, ← Nat.add_assoc] at f0 f1 f2 f3
            have hct := Lib.hid (refhard_any (.slice AD x.doms.length cD) (.slice (some ⟨b, o, none⟩) x.hard.length cH) (.slice AS x.soft.length cS) vs vr va x (nth default x.hard k2) ok _ (HD.out.below (by decide) hbd) (e1.below (by decide) hbd) (e2.below (by decide) hbd) (e3.below (by decide) hbd))
            have HN := Lib.hid (all_take default (hardB x) x.hard k2 hkl2)
            generalize nth default x.hard k2 = c at *
            generalize (x.hard.take k2).all (hardB x) = B at *
            have HBD := Lib.hid hbd
            clear hx hx3 hbd hcell hK e1 e2 e3
            go_wp2_with fail
            refine wp_region_still_tail 6 (by kernel_rfl) (by kernel_rfl) ?_
            change wpStill _ _ (World.drew wr) (fun a' => wpList _ _ _ _ a' (World.drew wr)) _ _
            generalize World.drew wr = W at *
            simp only [List.take_succ_cons, List.take_zero, List.drop_succ_cons, List.drop_zero]
            repeat (first | (refine still_plain rfl (fun K hK => ?_); go_simp; refine hK _ ?_; clear hK K) | (refine still_off _ _ _ _ _ rfl rfl rfl rfl rfl (fun K hK => ?_); go_simp; refine hK _ ?_; clear hK K) | (refine still_on _ _ _ _ rfl rfl rfl rfl (fun K hK => ?_); go_simp; refine hK _ ?_; clear hK K) | (refine still_dead _ _ _ _ rfl rfl rfl rfl (fun K hK => ?_); go_simp; refine hK _ ?_; clear hK K))
            refine wpStill_nil ?_
            cases hB : B <;> cases hC : hardB x c
            all_goals (rw [hC] at hct)
            all_goals go_wp2_with (go_at_call 24; refine hct.out.mono ?_; rintro e w4 ⟨rfl, hb4⟩; (have HW4 := Lib.hid (below_next HBD.out hb4)))
            all_goals go_roundw
            all_goals first
              | (case rel => exact ⟨k2 + 1, by go_num, by omega, by rw [HN.out, hB, hC]; rfl, HW4⟩)
              | (case measure => simp [intOf]; omega)
          · have hall : (x.hard.take k2).all (hardB x) = x.hard.all (hardB x) := by rw [List.take_of_length_le (by omega)]
            rw [hall]
            have y1 := cell_at hx (i := 1) rfl
            clear hall hx
            generalize x.hard.all (hardB x) = A at *
            go_wp2_with fail
            clear y1
            go_loopw [5, 8, 9] (fun okv i _ wr => ∃ k : Nat, i = .int .i64 k ∧ k ≤ x.soft.length ∧ okv = .bool (A && (x.soft.take k).all (softB x)) ∧ Hid (Below W0.heap.size W0 wr)) (fun _ i _ _ => x.soft.length - (intOf i).toNat)
            case atStart => exact ⟨0, rfl, by omega, by simp, HW2⟩
            case round =>
              obtain ⟨k3, rfl, hk3, rfl, HW3⟩ := hrel
              have hx := block_kept HW3.out HX.out
              by_cases hkl3 : k3 < x.soft.length
              · have y1 := cell_at hx (i := 2) rfl
                have hbd := below_next HW3.out (Below.drew (Below.refl _ _))
                have hx3 := block_kept hbd HX.out
                have x0 := cell_at hx3 (i := 0) rfl
                have x1 := cell_at hx3 (i := 1) rfl
                have x2 := cell_at hx3 (i := 2) rfl
                obtain ⟨b, o, cs, rfl, _, hK, hcell⟩ := HS.out.elems k3 (nth default x.soft k3) (nth_get default x.soft k3 hkl3)
                obtain ⟨vs, vr, va, rfl, e1, e2, e3⟩ := kSft_cells hK
                have f0 := cell_kept hbd (hcell 0 _ rfl)
                have f1 := cell_kept hbd (hcell 1 _ rfl)
                have f2 := cell_kept hbd (hcell 2 _ rfl)
                have f3 := cell_kept hbd (hcell 3 _ rfl)
                simp only [show kSft.sz = 4 from rfl, Nat.add_zero, ← Nat.add_assoc] at f0 f1 f2 f3
                have hct := Lib.hid (refsoft_any (.slice AD x.doms.length cD) (.slice AH x.hard.length cH) (.slice (some ⟨b, o, none⟩) x.soft.length cS) vs vr va x (nth default x.soft k3) ok _ (HD.out.below (by decide) hbd) (e1.below (by decide) hbd) (e2.below (by decide) hbd) (e3.below (by decide) hbd))
                have HN := Lib.hid (all_take default (softB x) x.soft k3 hkl3)
                generalize nth default x.soft k3 = c at *
                obtain ⟨B, hBd⟩ : ∃ B, (A && (x.soft.take k3).all (softB x)) = B := ⟨_, rfl⟩
                have HBd := Lib.hid hBd
                rw [hBd]
                have HBD := Lib.hid hbd
                clear hx hx3 hbd hcell hK e1 e2 e3 hBd
                go_wp2_with fail
                refine wp_region_still_tail 6 (by kernel_rfl) (by kernel_rfl) ?_
                change wpStill _ _ (World.drew wr) (fun a' => wpList _ _ _ _ a' (World.drew wr)) _ _
                generalize World.drew wr = W at *
                simp only [List.take_succ_cons, List.take_zero, List.drop_succ_cons, List.drop_zero]
                repeat (first | (refine still_plain rfl (fun K hK => ?_); go_simp; refine hK _ ?_; clear hK K) | (refine still_off _ _ _ _ _ rfl rfl rfl rfl rfl (fun K hK => ?_); go_simp; refine hK _ ?_; clear hK K) | (refine still_on _ _ _ _ rfl rfl rfl rfl (fun K hK => ?_); go_simp; refine hK _ ?_; clear hK K) | (refine still_dead _ _ _ _ rfl rfl rfl rfl (fun K hK => ?_); go_simp; refine hK _ ?_; clear hK K))
                refine wpStill_nil ?_
                cases hB : B <;> cases hC : softB x c
                all_goals (rw [hC] at hct)
                all_goals go_wp2_with (go_at_call 25; refine hct.out.mono ?_; rintro e w4 ⟨rfl, hb4⟩; (have HW4 := Lib.hid (below_next HBD.out hb4)))
                all_goals go_roundw
                all_goals first
                  | (case rel => exact ⟨k3 + 1, by go_num, by omega, by rw [HN.out, ← Bool.and_assoc, HBd.out, hB, hC]; rfl, HW4⟩)
                  | (case measure => simp [intOf]; omega)
              · have hall : (x.soft.take k3).all (softB x) = x.soft.all (softB x) := by rw [List.take_of_length_le (by omega)]
                rw [hall, ← HF2.out]
                have y1 := cell_at hx (i := 2) rfl
                clear hall hx
                go_wp2_with fail
                go_ret
                exact ⟨rfl, HB.out.trans (HW3.out.mono HB.out.size)⟩
  · have hf : rightB x = false := by
      cases hh : rightB x
      · rfl
      · exfalso
        apply hg
        exact ⟨(right_doms hh).1, (right_hard hh).1, (right_soft hh).1⟩
    have HF := Lib.hid hf
    clear hf
    by_cases g1 : x.doms.length ≤ 40
    · by_cases g2 : x.hard.length ≤ 200
      · have g3 : ¬ x.soft.length ≤ 200 := fun g3 => hg ⟨g1, g2, g3⟩
        clear hg
        go_enter Tryz.func13, Tryz.ntmps13
        go_wp2_with fail
        go_ret
        exact ⟨ret_bool HF.out.symm, HB.out⟩
      · clear hg
        go_enter Tryz.func13, Tryz.ntmps13
        go_wp2_with fail
        go_ret
        exact ⟨ret_bool HF.out.symm, HB.out⟩
    · clear hg
      go_enter Tryz.func13, Tryz.ntmps13
      go_wp2_with fail
      go_ret
      exact ⟨ret_bool HF.out.symm, HB.out⟩
end Go.Proofs.YtoahaigfjfeopaaGreatDoor
