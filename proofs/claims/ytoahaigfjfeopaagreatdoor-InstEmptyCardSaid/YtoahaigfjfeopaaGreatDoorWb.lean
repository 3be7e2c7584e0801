/- What the functions that tell right instances compute. -/
import Derived.Test.YtoahaigfjfeopaaGreatDoorWa
import Derived.Test.YtoahaigfjfeopaaGreatDoorPb
namespace Go.Proofs.YtoahaigfjfeopaaGreatDoor
open Go.RowKit

theorem bcell {W w1 : World} (hb : Below W.heap.size W w1) : (∀ b o, b < W.heap.size → w1.cell? ⟨b, o, none⟩ = W.cell? ⟨b, o, none⟩) :=
  fun b o h => hb.cell (p := ⟨b, o, none⟩) h
theorem below_drewN {B : Nat} {a w : World} (h : Below B a w) (n : Nat) : Below B a (w.drewN n) := ⟨h.os, h.tape, h.output, h.size, h.block⟩

theorem below_next {w w1 w2 : World} (h : Below w.heap.size w w1) (k : Below w1.heap.size w1 w2) : Below w.heap.size w w2 := h.trans (k.mono h.size)
theorem cell_at {w : World} {g : Nat} {cs : Array Value} {t : TypeId} {fr : Nat × Nat} (hg : w.heap[g]? = some (.cells cs t fr)) {i : Nat} {u : Value} (hu : cs[i]? = some u) : w.cell? ⟨g, i, none⟩ = some u := by
  simp [World.cell?, hg, hu]
theorem cell_kept {w w1 : World} (hb : Below w.heap.size w w1) {a : Addr} {u : Value} (h : w.cell? a = some u) : w1.cell? a = some u := (hb.cell (lt_of_cell h)).trans h
theorem block_kept {w w1 : World} (hb : Below w.heap.size w w1) {g : Nat} {o : Obj} (h : w.heap[g]? = some o) : w1.heap[g]? = some o := (hb.block g (Array.getElem?_eq_some_iff.1 h).1).trans h
theorem quiet_add_left {P : Program} {f : FuncId} {args : Array Value} {w : World} {a n : Nat} {v : Value}
    (h : Calls P f args (w.drewN (a + n)) fun e w' => e = .returned v ∧ w.drewN (a + n) = w') :
    Calls P f args (w.drewN (a + n)) fun e w'' => e = .returned v ∧ ∃ m, w'' = w.drewN (a + m) :=
  h.mono fun _ _ ⟨he, hm⟩ => ⟨he, n, hm.symm⟩
theorem quiet_left {P : Program} {f : FuncId} {args : Array Value} {w : World} {n : Nat} {v : Value}
    (h : Calls P f args (w.drewN n) fun e w' => e = .returned v ∧ w.drewN n = w') : Calls P f args (w.drewN n) fun e w'' => e = .returned v ∧ ∃ m, w'' = w.drewN m :=
  h.mono fun _ _ ⟨he, hm⟩ => ⟨he, n, hm.symm⟩

theorem domain_any (v : Value) (xs : List Int) (ok : Nat → Prop) (w : World) (h1 : Sl (Kd.int .i64) w ok v xs) :
    Calls Tryz.prog 28 #[v] w fun e w' => e = .returned (.bool (domainB xs)) ∧ ∃ n, w' = w.drewN n := by
  have H := h1
  obtain ⟨A, c, rfl, hc, hm, hA⟩ := h1
  by_cases h0 : 0 < xs.length
  · obtain ⟨b, o, rfl, c0⟩ := hA.num h0
    obtain ⟨b', o', he, c1⟩ := hA.num (j := xs.length - 1) (by omega)
    injection he with he
    injection he with he1 he2
    subst he1 he2
    clear hA
    simp only [Nat.add_zero] at c0
    have hs0 : IntKind.i64.wrap ((xs.length:Int) - 1) = (xs.length:Int) - 1 := IntWalk.i64_in _ (by omega)
    have hs1 : ((xs.length:Int) - 1).toNat = xs.length - 1 := by omega
    go_enter Tryz.func28, Tryz.ntmps28
    go_wp2_with (first | (go_at_call 52; refine (rising_any _ _ _ _ H).mono ?_; rintro e w' ⟨rfl, nd, rfl⟩) | (go_at_call 53; refine (small_any _ _ _ (by omega) (by omega)).mono ?_; rintro e w' ⟨rfl, rfl⟩))
    all_goals go_ret
    all_goals exact ⟨ret_bool (by simp [domainB, *]; try omega), by first | exact ⟨_, rfl⟩ | exact ⟨0, rfl⟩⟩
  · have hs : xs.length = 0 := by omega
    go_enter Tryz.func28, Tryz.ntmps28
    go_wp2
    all_goals go_ret
    all_goals exact ⟨ret_bool (by simp [domainB, *]), ⟨0, rfl⟩⟩

/-- A slice of rows of numbers. -/
abbrev kRow : Kd (List Int) := Kd.slice (Kd.int .i64) (by decide)
abbrev kRows : Kd (List (List Int)) := Kd.slice kRow (by decide)

theorem below_alloc1 (w : World) (o : Obj) : Below w.heap.size w (w.alloc o) := (Below.refl _ _).alloc (Nat.le_refl _) o

theorem Sl.drewN {α : Type} {d : Kd α} {w : World} {ok : Nat → Prop} {v : Value} {xs : List α} (hs : 0 < d.sz) (h : Sl d w ok v xs) (n : Nat) : Sl d (w.drewN n) ok v xs :=
  h.below hs (below_drewN (Below.refl _ _) n)

theorem scope_any (vD vH vS v : Value) (doms : List (List Int)) (xs : List Int) (ok : Nat → Prop) (w : World) (hD : Sl kRow w ok vD doms) (h1 : Sl (Kd.int .i64) w ok v xs) :
    Calls Tryz.prog 55 #[.agg #[vD, vH, vS], v] w fun e w' => e = .returned (.bool (scopeB doms.length xs)) ∧ Below w.heap.size w w' := by
  obtain ⟨A', c', rfl, hc', hm', hA'⟩ := hD
  have H := Sl.below (by decide) h1 (below_alloc1 w (.cells #[.slice A' doms.length c', vH, vS] 26))
  have HB := below_alloc1 w (.cells #[.slice A' doms.length c', vH, vS] 26)
  obtain ⟨A, c, rfl, hc, hm, hA⟩ := h1
  have hA := Sl.elems H
  by_cases h0 : 0 < xs.length
  · obtain ⟨b, o, rfl, c0⟩ := hA.num h0
    obtain ⟨b', o', he, c1⟩ := hA.num (j := xs.length - 1) (by omega)
    injection he with he
    injection he with he1 he2
    subst he1 he2
    simp only [Nat.add_zero] at c0
    have hs0 : IntKind.i64.wrap ((xs.length:Int) - 1) = (xs.length:Int) - 1 := IntWalk.i64_in _ (by omega)
    have hs1 : ((xs.length:Int) - 1).toNat = xs.length - 1 := by omega
    clear hA hA'
    go_enter Tryz.func55, Tryz.ntmps55
    go_wp2
    refine wp_region_quiet_lit (by kernel_rfl) (by kernel_rfl) ?_
    repeat (any_goals (first | go_big_quiet_step ((go_at_call 52; exact Calls.quiet_of (rising_any _ _ _ _ (H.drewN (by decide) _)))) | quiet_step ((go_at_call 52; exact Calls.quiet_of (rising_any _ _ _ _ (H.drewN (by decide) _)))) | (refine wpQuiet_step (fun K hK => ?_); go_simp; split <;> (refine hK _ ?_; clear hK K))))
    all_goals (refine wpQuiet_nil ?_; intro _ hw'; obtain ⟨nq, hw''⟩ := hw'; subst hw'')
    all_goals go_wp2
    all_goals go_ret
    all_goals exact ⟨ret_bool (by simp [scopeB, *]; try omega), below_drewN HB _⟩
  · have hz : decide (0 < xs.length) = false := decide_eq_false h0
    clear hA hA'
    go_enter Tryz.func55, Tryz.ntmps55
    go_wp2
    go_quiet (fail)
    go_wp2
    go_ret
    exact ⟨ret_bool (by simp only [scopeB, hz, Bool.false_and]), below_drewN HB _⟩

theorem linear_any (vs vr va : Value) (c : Con) (ok : Nat → Prop) (w : World) (h1 : Sl (Kd.int .i64) w ok vs c.scope) (h2 : Sl (Kd.int .i64) w ok va c.args) :
    Calls Tryz.prog 56 #[.agg #[.int .i64 c.kind, vs, vr, va]] w fun e w' => e = .returned (.bool (linearB c)) ∧ Below w.heap.size w w' := by
  obtain ⟨A, cp, rfl, hc, hm, hA⟩ := h1
  obtain ⟨A', c', rfl, hc', hm', hA'⟩ := h2
  have HB := below_alloc1 w (.cells #[.int .i64 c.kind, .slice A c.scope.length cp, vr, .slice A' c.args.length c'] 43)
  have H := Sl.below (v := .slice A' c.args.length c') (xs := c.args) (by decide) ⟨A', c', rfl, hc', hm', hA'⟩ HB
  have hA := Sl.elems H
  clear H hA'
  by_cases hl : c.args.length = c.scope.length + 2
  · obtain ⟨b, o, rfl, c1⟩ := hA.num (j := c.scope.length) (by omega)
    have hb : ((c.args.length : Int) != c.scope.length + 2) = false := by simp; omega
    have hlt : c.scope.length < c.args.length := by omega
    have hl' := Lib.hid hl
    clear hl
    by_cases hq1 : 0 ≤ nth 0 c.args c.scope.length
    · by_cases hq2 : nth 0 c.args c.scope.length ≤ 2
      · go_enter Tryz.func56, Tryz.ntmps56
        go_wp2
        clear c1
        go_loop [34] (fun i => ∃ k : Nat, i = .int .i64 k ∧ k ≤ c.args.length ∧ Hid (argsB c.scope.length 0 c.args = argsB c.scope.length k (c.args.drop k))) (fun i => c.args.length - (intOf i).toNat)
        case atStart => exact ⟨0, rfl, by omega, Lib.hid rfl⟩
        case round =>
          obtain ⟨k, rfl, hk, H⟩ := hrel
          by_cases hkl : k < c.args.length
          · obtain ⟨b', o', he, c2⟩ := hA.num hkl
            injection he with he
            injection he with he1 he2
            subst he1 he2
            have H' : Hid (argsB c.scope.length k (c.args.drop k) = (!(decide (k < c.scope.length) && decide (nth 0 c.args k = 0)) && smallB (nth 0 c.args k) 1000000 && argsB c.scope.length (k + 1) (c.args.drop (k + 1)))) := by
              rw [drop_cons c.args 0 k hkl, argsB]; exact Lib.hid rfl
            clear hA
            by_cases hz : k < c.scope.length ∧ nth 0 c.args k = 0
            · obtain ⟨hz1, hz2⟩ := hz
              have hz3 : (nth 0 c.args k == 0) = true := by simp [hz2]
              have hz2 := Lib.hid hz2
              go_wp2_with (go_at_call 53; refine (small_any _ _ _ (by omega) (by omega)).mono ?_; rintro e w' ⟨rfl, rfl⟩)
              go_ret
              exact ⟨ret_bool (by unfold linearB; rw [H.out, H'.out, hz2.out]; simp [hz1]), HB⟩
            · have hz4 : ¬ (k < c.scope.length ∧ (nth 0 c.args k == 0) = true) := by simpa using hz
              have hz' : Hid ((!(decide (k < c.scope.length) && decide (nth 0 c.args k = 0))) = true) := by
                have : (decide (k < c.scope.length) && decide (nth 0 c.args k = 0)) = false := by
                  rw [Bool.and_eq_false_iff, decide_eq_false_iff_not, decide_eq_false_iff_not]; exact (Classical.not_and_iff_not_or_not.1 hz)
                rw [this]; exact Lib.hid rfl
              clear hz
              by_cases hz1 : k < c.scope.length
              · have hz5 : (nth 0 c.args k == 0) = false := by simpa [hz1] using hz4
                clear hz4
                cases hs : smallB (nth 0 c.args k) 1000000
                · go_wp2_with (go_at_call 53; refine (small_any _ _ _ (by omega) (by omega)).mono ?_; rintro e w' ⟨rfl, rfl⟩)
                  go_ret
                  exact ⟨ret_bool (by unfold linearB; rw [H.out, H'.out, hs]; simp), HB⟩
                · go_wp2_with (go_at_call 53; refine (small_any _ _ _ (by omega) (by omega)).mono ?_; rintro e w' ⟨rfl, rfl⟩)
                  go_round
                  case rel => exact ⟨k + 1, by go_num, by omega, Lib.hid (by rw [H.out, H'.out, hz'.out, hs]; simp)⟩
                  case measure => simp [intOf]; omega
              · clear hz4
                cases hs : smallB (nth 0 c.args k) 1000000
                · go_wp2_with (go_at_call 53; refine (small_any _ _ _ (by omega) (by omega)).mono ?_; rintro e w' ⟨rfl, rfl⟩)
                  go_ret
                  exact ⟨ret_bool (by unfold linearB; rw [H.out, H'.out, hs]; simp), HB⟩
                · go_wp2_with (go_at_call 53; refine (small_any _ _ _ (by omega) (by omega)).mono ?_; rintro e w' ⟨rfl, rfl⟩)
                  go_round
                  case rel => exact ⟨k + 1, by go_num, by omega, Lib.hid (by rw [H.out, H'.out, hz'.out, hs]; simp)⟩
                  case measure => simp [intOf]; omega
          · go_wp2
            go_ret
            exact ⟨ret_bool (by unfold linearB; rw [H.out, List.drop_eq_nil_of_le (by omega)]; simp [argsB, hl'.out, hq1, hq2]), HB⟩
      · go_enter Tryz.func56, Tryz.ntmps56
        go_wp2
        go_ret
        exact ⟨ret_bool (by simp [linearB]; omega), HB⟩
    · go_enter Tryz.func56, Tryz.ntmps56
      go_wp2
      go_ret
      exact ⟨ret_bool (by simp [linearB]; omega), HB⟩
  · have hb : ((c.args.length : Int) != c.scope.length + 2) = true := by simp; omega
    go_enter Tryz.func56, Tryz.ntmps56
    go_wp2
    go_ret
    exact ⟨ret_bool (by simp [linearB, hl]), HB⟩
end Go.Proofs.YtoahaigfjfeopaaGreatDoor
