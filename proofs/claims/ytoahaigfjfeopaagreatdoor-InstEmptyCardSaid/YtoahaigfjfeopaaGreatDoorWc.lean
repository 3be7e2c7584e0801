/- What inst.rows, hard, soft and Right compute. -/
import Derived.Test.YtoahaigfjfeopaaGreatDoorWb
namespace Go.Proofs.YtoahaigfjfeopaaGreatDoor
open Go.RowKit

def ahead (rows : List (List Int)) : Nat → Option (List Int)
  | 0 => none
  | k + 1 => some (nth [] rows k)
theorem rowsB_drop (doms : List (List Int)) (scope : List Int) (rows : List (List Int)) (k : Nat) (h : k < rows.length) :
    rowsB doms scope (ahead rows k) (rows.drop k) = (decide ((nth [] rows k).length = scope.length) && (match ahead rows k with | none => true | some p => decide (cmpL p (nth [] rows k) < 0)) && inDoms doms scope (nth [] rows k) && rowsB doms scope (ahead rows (k + 1)) (rows.drop (k + 1))) := by
  rw [drop_cons rows [] k h]; rfl
theorem inDoms_drop (doms : List (List Int)) (s t : List Int) (k : Nat) (h : k < s.length) (h' : k < t.length) :
    inDoms doms (s.drop k) (t.drop k) = (decide (nth 0 t k ∈ nth [] doms (nth 0 s k).toNat) && inDoms doms (s.drop (k + 1)) (t.drop (k + 1))) := by
  rw [drop_cons s 0 k h, drop_cons t 0 k h', inDoms]

set_option maxRecDepth 100000 in
theorem rows_any (vD vH vS vs v : Value) (doms : List (List Int)) (scope : List Int) (rows : List (List Int)) (ok : Nat → Prop) (w : World) (hD : Sl kRow w ok vD doms) (hs : Sl (Kd.int .i64) w ok vs scope) (hr : Sl kRow w ok v rows)
    (hsc : ∀ k, k < scope.length → 0 ≤ nth 0 scope k ∧ nth 0 scope k < doms.length) :
    Calls Tryz.prog 57 #[.agg #[vD, vH, vS], vs, v] w fun e w' => e = .returned (.bool (rowsB doms scope none rows)) ∧ Below w.heap.size w w' := by
  obtain ⟨AD, cD, rfl, hcD, hmD, hAD⟩ := hD
  have HB := below_alloc1 w (.cells #[.slice AD doms.length cD, vH, vS] 26)
  have HD := Sl.elems (Sl.below (v := .slice AD doms.length cD) (xs := doms) (by decide) ⟨AD, cD, rfl, hcD, hmD, hAD⟩ HB)
  clear hAD
  obtain ⟨As, cs, rfl, hcs, hms, hAs⟩ := hs
  have HS := Sl.elems (Sl.below (v := .slice As scope.length cs) (xs := scope) (by decide) ⟨As, cs, rfl, hcs, hms, hAs⟩ HB)
  clear hAs
  obtain ⟨A, c, rfl, hc, hm, hA⟩ := hr
  have HR := Sl.elems (Sl.below (v := .slice A rows.length c) (xs := rows) (by decide) ⟨A, c, rfl, hc, hm, hA⟩ HB)
  clear hA
  have hsc' := Lib.hid hsc
  clear hsc
  go_enter Tryz.func57, Tryz.ntmps57
  go_wp2
  go_loopw [13] (fun i wr => ∃ k : Nat, i = .int .i64 k ∧ k ≤ rows.length ∧ Hid (rowsB doms scope none rows = rowsB doms scope (ahead rows k) (rows.drop k)) ∧ ∃ n, wr = (w.alloc (.cells #[.slice AD doms.length cD, vH, vS] 26)).drewN n) (fun i _ => rows.length - (intOf i).toNat)
  case atStart => exact ⟨0, rfl, by omega, Lib.hid rfl, 0, rfl⟩
  case round =>
    obtain ⟨k, rfl, hk, H, nd, rfl⟩ := hrel
    by_cases hkl : k < rows.length
    · obtain ⟨b, o, vt, rfl, c1, ht⟩ := HR.row hkl
      obtain ⟨At, ct, rfl, hct, hmt, hAt⟩ := ht
      have H' := Lib.hid (rowsB_drop doms scope rows k hkl)
      by_cases hlen : (nth [] rows k).length = scope.length
      · have hb : (((nth [] rows k).length : Int) != scope.length) = false := by simp; omega
        have hlen' : (nth [] rows k).length ≤ scope.length ∧ scope.length ≤ (nth [] rows k).length := by omega
        obtain ⟨hl1, hl2⟩ := hlen'
        have hlen := Lib.hid hlen
        have hSt : Sl (Kd.int .i64) (w.alloc (.cells #[.slice AD doms.length cD, vH, vS] 26)) ok (.slice At scope.length ct) (nth [] rows k) := by rw [← hlen.out]; exact ⟨At, ct, rfl, hct, hmt, hAt⟩
        by_cases hC : 0 < k ∧ ¬ cmpL (nth [] rows (k - 1)) (nth [] rows k) < 0
        · obtain ⟨hpos, hcmp⟩ := hC
          obtain ⟨b', o', vp, he, c2, hp⟩ := HR.row (j := k - 1) (by omega)
          injection he with he
          injection he with he1 he2
          subst he1 he2
          have hs0 : IntKind.i64.wrap ((k:Int) - 1) = (k:Int) - 1 := IntWalk.i64_in _ (by omega)
          have hs1 : ((k:Int) - 1).toNat = k - 1 := by omega
          have hah : Hid ((match ahead rows k with | none => true | some p => decide (cmpL p (nth [] rows k) < 0)) = false) := by
            obtain ⟨j, rfl⟩ : ∃ j, k = j + 1 := ⟨k - 1, by omega⟩
            exact Lib.hid (decide_eq_false hcmp)
          have hcp' := Lib.hid (fun n => tcompare_any vp (.slice At scope.length ct) _ _ ok ((w.alloc (.cells #[.slice AD doms.length cD, vH, vS] 26)).drewN n) (hp.drewN (by decide) n) (hSt.drewN (by decide) n))
          clear hp
          go_wp2_with (go_at_call 89; refine (hcp'.out _).mono ?_; rintro e w' ⟨rfl, rfl⟩)
          go_ret
          exact ⟨ret_bool (by rw [H.out, H'.out, hah.out]; simp), below_drewN HB _⟩
        · have Hgo : Hid ((match ahead rows k with | none => true | some p => decide (cmpL p (nth [] rows k) < 0)) = true) := by
            cases k with
            | zero => exact Lib.hid rfl
            | succ j => exact Lib.hid (decide_eq_true (Classical.not_not.1 fun h => hC ⟨Nat.succ_pos _, h⟩))
          have Hx : Hid (rowsB doms scope none rows = (inDoms doms scope (nth [] rows k) && rowsB doms scope (ahead rows (k + 1)) (rows.drop (k + 1)))) := by
            apply Lib.hid; rw [H.out, H'.out, Hgo.out, hlen.out]; simp only [decide_true, Bool.true_and]
          clear H H'
          have hin : 0 < k ∧ cmpL (nth [] rows (k - 1)) (nth [] rows k) < 0 ∨ ¬ 0 < k := by
            rcases Nat.lt_or_ge 0 k with h | h
            · exact .inl ⟨h, Classical.not_not.1 fun h' => hC ⟨h, h'⟩⟩
            · exact .inr (by omega)
          clear hC Hgo
          have hfacts : ∃ vp, (0 < k → (w.alloc (.cells #[.slice AD doms.length cD, vH, vS] 26)).cell? ⟨b, o + (k - 1), none⟩ = some vp) ∧ ∀ n, 0 < k → Calls Tryz.prog 89 #[vp, .slice At scope.length ct] ((w.alloc (.cells #[.slice AD doms.length cD, vH, vS] 26)).drewN n) fun e w' => e = .returned (.int .i64 (cmpL (nth [] rows (k - 1)) (nth [] rows k))) ∧ (w.alloc (.cells #[.slice AD doms.length cD, vH, vS] 26)).drewN n = w' := by
            rcases hin with ⟨hpos, _⟩ | hpos
            · obtain ⟨b', o', vp, he, c2, hp⟩ := HR.row (j := k - 1) (by omega)
              injection he with he
              injection he with he1 he2
              subst he1 he2
              exact ⟨vp, fun _ => c2, fun n _ => tcompare_any _ _ _ _ ok _ (hp.drewN (by decide) n) (hSt.drewN (by decide) n)⟩
            · exact ⟨undef, fun h => absurd h hpos, fun _ h => absurd h hpos⟩
          obtain ⟨vp, c2, hcp⟩ := hfacts
          have hcp' := Lib.hid hcp
          clear hcp
          have hs0 : 0 < k → IntKind.i64.wrap ((k:Int) - 1) = (k:Int) - 1 := fun h => IntWalk.i64_in _ (by omega)
          have hs1 : 0 < k → ((k:Int) - 1).toNat = k - 1 := by omega
          rcases hin with ⟨hpos, hcmp⟩ | hpos
          all_goals
            first | replace c2 := c2 hpos | clear c2
            first | replace hs0 := hs0 hpos | clear hs0
            first | replace hs1 := hs1 hpos | clear hs1
            go_wp2_with (go_at_call 89; refine (hcp'.out _ hpos).mono ?_; rintro e w' ⟨rfl, rfl⟩)
            try clear hcmp c2 hs0 hs1
            clear hcp'
            go_loopw [39] (fun i wr => ∃ m : Nat, i = .int .i64 m ∧ m ≤ scope.length ∧ Hid (inDoms doms scope (nth [] rows k) = inDoms doms (scope.drop m) ((nth [] rows k).drop m)) ∧ ∃ n, wr = (w.alloc (.cells #[.slice AD doms.length cD, vH, vS] 26)).drewN n) (fun i _ => scope.length - (intOf i).toNat)
            case atStart => exact ⟨0, rfl, by omega, Lib.hid rfl, _, rfl⟩
            case round =>
              obtain ⟨m, rfl, hm1, G, nd1, rfl⟩ := hrel
              by_cases hml : m < scope.length
              · obtain ⟨b1, o1, rfl, d1⟩ := HS.num hml
                obtain ⟨b2, o2, rfl, d2⟩ := (Sl.elems hSt).num (j := m) (by rw [hlen.out]; exact hml)
                obtain ⟨q1, q2⟩ := hsc'.out m hml
                obtain ⟨b3, o3, v3, rfl, d3, hd3⟩ := HD.row (j := (nth 0 scope m).toNat) (by omega)
                have G' := Lib.hid (inDoms_drop doms scope (nth [] rows k) m hml (by rw [hlen.out]; exact hml))
                have hct' := Lib.hid (fun n => contains_any v3 _ (nth 0 (nth [] rows k) m) ok ((w.alloc (.cells #[.slice (some ⟨b3, o3, none⟩) doms.length cD, vH, vS] 26)).drewN n) (hd3.drewN (by decide) n))
                clear HS hSt HD hd3
                go_wp2
                go_quiet ((go_at_call 90; exact quiet_add_left (hct'.out _)))
                cases hmem : decide (nth 0 (nth [] rows k) m ∈ nth [] doms (nth 0 scope m).toNat)
                · go_wp2
                  go_ret
                  exact ⟨ret_bool (by rw [Hx.out, G.out, G'.out, hmem]; simp), by first | exact below_drewN HB _ | exact below_drewN (below_drewN HB _) _⟩
                · go_wp2
                  go_roundw
                  case rel => exact ⟨m + 1, by go_num, by omega, Lib.hid (by rw [G.out, G'.out, hmem]; simp), by first | exact ⟨_, rfl⟩ | exact ⟨_, World.drewN_drewN ..⟩⟩
                  case measure => simp [intOf]; omega
              · go_wp2
                go_roundw
                case rel => exact ⟨k + 1, by go_num, by omega, Lib.hid (by rw [Hx.out, G.out, List.drop_eq_nil_of_le (show scope.length ≤ m by omega)]; simp [inDoms]), by first | exact ⟨_, rfl⟩ | exact ⟨_, World.drewN_drewN ..⟩⟩
                case measure => simp [intOf]; omega
      · have hb : (((nth [] rows k).length : Int) != scope.length) = true := by simp; omega
        go_wp2
        go_ret
        exact ⟨ret_bool (by rw [H.out, H'.out, decide_eq_false hlen]; simp), below_drewN HB _⟩
    · go_wp2
      go_ret
      exact ⟨ret_bool (by rw [H.out, List.drop_eq_nil_of_le (by omega)]; cases k <;> rfl), below_drewN HB _⟩

/-- A hard constraint, a soft one. -/
abbrev kCon : Kd Con := Kd.iso (Kd.pair (Kd.int .i64) (Kd.pair kRow (Kd.pair kRows kRow))) (fun c => (c.kind, c.scope, c.rows, c.args))
abbrev kSft : Kd Sft := Kd.iso (Kd.pair kRow (Kd.pair kRows (Kd.pair kRow (Kd.int .i64)))) (fun s => (s.scope, s.rows, s.costs, s.dflt))
theorem kCon_cells {w : World} {ok : Nat → Prop} {c : Con} {cs : List Value} (h : kCon.K w ok c cs) : ∃ vs vr va, cs = [.int .i64 c.kind, vs, vr, va] ∧ Sl (Kd.int .i64) w ok vs c.scope ∧ Sl kRow w ok vr c.rows ∧ Sl (Kd.int .i64) w ok va c.args := by
  obtain ⟨_, _, rfl, h0, _, _, rfl, ⟨vs, rfl, h1⟩, _, _, rfl, ⟨vr, rfl, h2⟩, va, rfl, h3⟩ := h
  exact ⟨vs, vr, va, by rw [show _ = [Value.int .i64 c.kind] from h0]; rfl, h1, h2, h3⟩
theorem kSft_cells {w : World} {ok : Nat → Prop} {s : Sft} {cs : List Value} (h : kSft.K w ok s cs) : ∃ vs vr vc, cs = [vs, vr, vc, .int .i64 s.dflt] ∧ Sl (Kd.int .i64) w ok vs s.scope ∧ Sl kRow w ok vr s.rows ∧ Sl (Kd.int .i64) w ok vc s.costs := by
  obtain ⟨_, _, rfl, ⟨vs, rfl, h1⟩, _, _, rfl, ⟨vr, rfl, h2⟩, _, _, rfl, ⟨vc, rfl, h3⟩, h0⟩ := h
  exact ⟨vs, vr, vc, by rw [show _ = [Value.int .i64 s.dflt] from h0]; rfl, h1, h2, h3⟩
theorem kCon_mk {w : World} {ok : Nat → Prop} {c : Con} {vs vr va : Value} (h1 : Sl (Kd.int .i64) w ok vs c.scope) (h2 : Sl kRow w ok vr c.rows) (h3 : Sl (Kd.int .i64) w ok va c.args) : kCon.K w ok c [.int .i64 c.kind, vs, vr, va] :=
  ⟨[_], [_, _, _], rfl, rfl, [_], [_, _], rfl, ⟨_, rfl, h1⟩, [_], [_], rfl, ⟨_, rfl, h2⟩, _, rfl, h3⟩
theorem kSft_mk {w : World} {ok : Nat → Prop} {s : Sft} {vs vr vc : Value} (h1 : Sl (Kd.int .i64) w ok vs s.scope) (h2 : Sl kRow w ok vr s.rows) (h3 : Sl (Kd.int .i64) w ok vc s.costs) : kSft.K w ok s [vs, vr, vc, .int .i64 s.dflt] :=
  ⟨[_], [_, _, _], rfl, ⟨_, rfl, h1⟩, [_], [_, _], rfl, ⟨_, rfl, h2⟩, [_], [_], rfl, ⟨_, rfl, h3⟩, rfl⟩

theorem scopeB_bounds {n : Nat} {l : List Int} (h : scopeB n l = true) : ∀ k, k < l.length → 0 ≤ nth 0 l k ∧ nth 0 l k < n := by
  simp only [scopeB, Bool.and_eq_true, decide_eq_true_eq] at h
  obtain ⟨⟨⟨⟨h0, _⟩, hr⟩, h1⟩, h2⟩ := h
  have mono : ∀ (j k : Nat), j + k < l.length → nth 0 l k ≤ nth 0 l (j + k) ∧ True := by
    have step : ∀ k, k + 1 < l.length → nth 0 l k < nth 0 l (k + 1) := by
      intro k hk
      have : risingB (l.drop k) = true := by
        induction k with
        | zero => exact hr
        | succ k ih =>
          have := ih (by omega)
          rw [risingB_drop l k (by omega)] at this
          simp only [Bool.and_eq_true] at this
          exact this.2
      rw [risingB_drop l k hk] at this
      simp only [Bool.and_eq_true, decide_eq_true_eq] at this
      exact this.1
    intro j
    induction j with
    | zero => intro k _; simp
    | succ j ih =>
      intro k hk
      have a := ih k (by omega)
      have b := step (j + k) (by omega)
      rw [show j + 1 + k = j + k + 1 from by omega]
      exact ⟨by omega, trivial⟩
  intro k hk
  have a := mono k 0 (by omega)
  have b := mono (l.length - 1 - k) k (by omega)
  rw [show l.length - 1 - k + k = l.length - 1 from by omega] at b
  simp only [Nat.add_zero] at a
  exact ⟨Int.le_trans h1 a.1, Int.lt_of_le_of_lt b.1 h2⟩

set_option maxRecDepth 100000 in
theorem hard_any (vD vH vS vs vr va : Value) (x : Ins) (c : Con) (ok : Nat → Prop) (w : World) (hD : Sl kRow w ok vD x.doms) (h1 : Sl (Kd.int .i64) w ok vs c.scope) (h2 : Sl kRow w ok vr c.rows) (h3 : Sl (Kd.int .i64) w ok va c.args) :
    Calls Tryz.prog 31 #[.agg #[vD, vH, vS], .agg #[.int .i64 c.kind, vs, vr, va]] w fun e w' => e = .returned (.bool (hardB x c)) ∧ Below w.heap.size w w' := by
  obtain ⟨AD, cD, rfl, hcD, hmD, hAD⟩ := hD
  obtain ⟨As, cs, rfl, hcs, hms, hAs⟩ := h1
  obtain ⟨Ar, cr, rfl, hcr, hmr, hAr⟩ := h2
  obtain ⟨Aa, ca, rfl, hca, hma, hAa⟩ := h3
  have HB0 := (below_alloc1 w (.cells #[.slice AD x.doms.length cD, vH, vS] 26)).alloc (by simp) (.cells #[.int .i64 c.kind, .slice As c.scope.length cs, .slice Ar c.rows.length cr, .slice Aa c.args.length ca] 43)
  have HD := Sl.below (v := .slice AD x.doms.length cD) (xs := x.doms) (by decide) ⟨AD, cD, rfl, hcD, hmD, hAD⟩ HB0
  have HS := Sl.below (v := .slice As c.scope.length cs) (xs := c.scope) (by decide) ⟨As, cs, rfl, hcs, hms, hAs⟩ HB0
  have HR := Sl.below (v := .slice Ar c.rows.length cr) (xs := c.rows) (by decide) ⟨Ar, cr, rfl, hcr, hmr, hAr⟩ HB0
  have HA := Sl.below (v := .slice Aa c.args.length ca) (xs := c.args) (by decide) ⟨Aa, ca, rfl, hca, hma, hAa⟩ HB0
  clear hAD hAs hAr hAa
  have HB := Lib.hid HB0
  clear HB0
  have hsc := scope_any _ vH vS _ _ _ ok _ HD HS
  have hsc' := Lib.hid hsc
  clear hsc
  go_enter Tryz.func31, Tryz.ntmps31
  go_wp2_with (go_at_call 55; refine (hsc'.out).mono ?_; rintro e w' ⟨rfl, hb⟩; (obtain ⟨hc, hb'⟩ : (∀ b o, _ → _) ∧ Hid _ := ⟨bcell hb, Lib.hid hb⟩); clear hb)
  all_goals try (go_at_call 56; refine (linear_any _ _ _ _ _ _ (HS.below (by decide) hb'.out) (HA.below (by decide) hb'.out)).mono ?_; rintro e w'' ⟨rfl, hb⟩; have hb2 := Lib.hid hb; clear hb; go_wp2)
  all_goals try (go_at_call 57; refine (rows_any _ _ _ _ _ _ _ _ _ _ (HD.below (by decide) hb'.out) (HS.below (by decide) hb'.out) (HR.below (by decide) hb'.out) (scopeB_bounds (by assumption))).mono ?_; rintro e w'' ⟨rfl, hb⟩; have hb2 := Lib.hid hb; clear hb; go_wp2)
  all_goals go_ret
  all_goals refine ⟨ret_bool ?_, by first | exact below_next (below_next HB.out hb'.out) hb2.out | exact below_next HB.out hb'.out⟩
  all_goals clear hc hsc' HD HS HR HA HB hb'
  all_goals try clear hb2
  all_goals try (simp_all [hardB]; done)
  all_goals simp_all [hardB]
  all_goals first | (intro h1; exfalso; omega) | (intro h1; exfalso; have h2 := congrArg List.length h1; simp only [List.length_nil] at h2; omega)
end Go.Proofs.YtoahaigfjfeopaaGreatDoor
