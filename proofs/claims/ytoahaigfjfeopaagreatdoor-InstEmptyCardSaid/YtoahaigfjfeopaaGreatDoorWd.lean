/- What inst.soft and Right compute: with functions handed to slices.ContainsFunc. -/
import Derived.Test.YtoahaigfjfeopaaGreatDoorWc
namespace Go.Proofs.YtoahaigfjfeopaaGreatDoor
open Go.RowKit

def findFrom {α : Type} (p : α → Bool) : Nat → List α → Int
  | _, [] => -1
  | i, a :: r => if p a = true then i else findFrom p (i + 1) r
theorem findFrom_ge {α : Type} (p : α → Bool) : ∀ (l : List α) (i : Nat), decide (0 ≤ findFrom p i l) = l.any p
  | [], i => by simp [findFrom]
  | a :: r, i => by
    unfold findFrom
    cases h : p a
    · simp [h, findFrom_ge p r (i + 1)]
    · simp [h]
theorem findFrom_drop {α : Type} (p : α → Bool) (z : α) (xs : List α) (k : Nat) (h : k < xs.length) : findFrom p k (xs.drop k) = if p (nth z xs k) = true then (k : Int) else findFrom p (k + 1) (xs.drop (k + 1)) := by
  rw [drop_cons xs z k h, findFrom]

theorem wide_any (n : Int) (w : World) : Calls Tryz.prog 59 #[.int .i64 n] w fun e w' => e = .returned (.bool (!smallB n 1000000000000)) ∧ w = w' := by
  go_enter Tryz.func59, Tryz.ntmps59
  go_wp2_with (go_at_call 60; refine (small64_any _ _ _ (by omega) (by omega)).mono ?_; rintro e w' ⟨rfl, rfl⟩)
  go_ret
  exact ⟨rfl, rfl⟩
theorem indexWide_any (v : Value) (xs : List Int) (ok : Nat → Prop) (w : World) (h1 : Sl (Kd.int .i64) w ok v xs) :
    Calls Tryz.prog 91 #[v, .func (.func 59) #[] #[]] w fun e w' => e = .returned (.int .i64 (findFrom (fun n => !smallB n 1000000000000) 0 xs)) ∧ w = w' := by
  obtain ⟨A, c, rfl, hc, hm, hA⟩ := h1
  go_enter Tryz.func91, Tryz.ntmps91
  go_wp2
  go_loop [8] (fun i => ∃ k : Nat, i = .int .i64 k ∧ k ≤ xs.length ∧ Hid (findFrom (fun n => !smallB n 1000000000000) 0 xs = findFrom (fun n => !smallB n 1000000000000) k (xs.drop k))) (fun i => xs.length - (intOf i).toNat)
  case atStart => exact ⟨0, rfl, by omega, Lib.hid rfl⟩
  case round =>
    obtain ⟨k, rfl, hk, H⟩ := hrel
    by_cases hlt : k < xs.length
    · obtain ⟨b, o, rfl, hcell⟩ := hA.num hlt
      have H' := Lib.hid (findFrom_drop (fun n => !smallB n 1000000000000) 0 xs k hlt)
      clear hA
      cases hs : smallB (nth 0 xs k) 1000000000000
      · go_wp2_with (go_at_call 59; refine (wide_any _ _).mono ?_; rintro e w' ⟨rfl, rfl⟩)
        go_ret
        exact ⟨ret_int (by rw [H.out, H'.out, hs]; simp), rfl⟩
      · go_wp2_with (go_at_call 59; refine (wide_any _ _).mono ?_; rintro e w' ⟨rfl, rfl⟩)
        go_round
        case rel => exact ⟨k + 1, by go_num, by omega, Lib.hid (by rw [H.out, H'.out, hs]; simp)⟩
        case measure => simp [intOf]; omega
    · go_wp2
      go_ret
      refine ⟨ret_int ?_, rfl⟩
      rw [H.out, List.drop_eq_nil_of_le (by omega)]; rfl
theorem anyWide_any (v : Value) (xs : List Int) (ok : Nat → Prop) (w : World) (h1 : Sl (Kd.int .i64) w ok v xs) :
    Calls Tryz.prog 61 #[v, .func (.func 59) #[] #[]] w fun e w' => e = .returned (.bool (wideAny xs)) ∧ w = w' := by
  have hx := Lib.hid (findFrom_ge (fun n => !smallB n 1000000000000) xs 0)
  go_enter Tryz.func61, Tryz.ntmps61
  go_wp2_with (go_at_call 91; refine (indexWide_any _ _ _ _ h1).mono ?_; rintro e w' ⟨rfl, rfl⟩)
  go_ret
  exact ⟨ret_bool hx.out, rfl⟩

set_option maxRecDepth 100000 in
theorem soft_any (vD vH vS vs vr vc : Value) (x : Ins) (s : Sft) (ok : Nat → Prop) (w : World) (hD : Sl kRow w ok vD x.doms) (h1 : Sl (Kd.int .i64) w ok vs s.scope) (h2 : Sl kRow w ok vr s.rows) (h3 : Sl (Kd.int .i64) w ok vc s.costs) :
    Calls Tryz.prog 34 #[.agg #[vD, vH, vS], .agg #[vs, vr, vc, .int .i64 s.dflt]] w fun e w' => e = .returned (.bool (softB x s)) ∧ Below w.heap.size w w' := by
  obtain ⟨AD, cD, rfl, hcD, hmD, hAD⟩ := hD
  obtain ⟨As, cs, rfl, hcs, hms, hAs⟩ := h1
  obtain ⟨Ar, cr, rfl, hcr, hmr, hAr⟩ := h2
  obtain ⟨Aa, ca, rfl, hca, hma, hAa⟩ := h3
  have HB0 := (below_alloc1 w (.cells #[.slice AD x.doms.length cD, vH, vS] 26)).alloc (by simp) (.cells #[.slice As s.scope.length cs, .slice Ar s.rows.length cr, .slice Aa s.costs.length ca, .int .i64 s.dflt] 47)
  have HD := Sl.below (v := .slice AD x.doms.length cD) (xs := x.doms) (by decide) ⟨AD, cD, rfl, hcD, hmD, hAD⟩ HB0
  have HS := Sl.below (v := .slice As s.scope.length cs) (xs := s.scope) (by decide) ⟨As, cs, rfl, hcs, hms, hAs⟩ HB0
  have HR := Sl.below (v := .slice Ar s.rows.length cr) (xs := s.rows) (by decide) ⟨Ar, cr, rfl, hcr, hmr, hAr⟩ HB0
  have HC := Sl.below (v := .slice Aa s.costs.length ca) (xs := s.costs) (by decide) ⟨Aa, ca, rfl, hca, hma, hAa⟩ HB0
  clear hAD hAs hAr hAa
  have HB := Lib.hid HB0
  clear HB0
  have hsc' := Lib.hid (scope_any _ vH vS _ _ _ ok _ HD HS)
  cases hq : wideAny s.costs
  all_goals
    go_enter Tryz.func34, Tryz.ntmps34
    go_wp2_with (first
      | (go_at_call 55; refine (hsc'.out).mono ?_; rintro e w' ⟨rfl, hb⟩; (obtain ⟨hc, hb'⟩ : (∀ b o, _ → _) ∧ Hid _ := ⟨bcell hb, Lib.hid hb⟩); clear hb)
      | (go_at_call 59; refine (wide_any _ _).mono ?_; rintro e w' ⟨rfl, rfl⟩)
      | (go_at_call 61; refine (anyWide_any _ _ _ _ (HC.below (by decide) hb'.out)).mono ?_; rintro e w' ⟨rfl, rfl⟩; rw [hq])
      | (go_at_call 57; refine (rows_any _ _ _ _ _ _ _ _ _ _ (HD.below (by decide) hb'.out) (HS.below (by decide) hb'.out) (HR.below (by decide) hb'.out) (scopeB_bounds (by assumption))).mono ?_; rintro e w'' ⟨rfl, hb⟩; have hb2 := Lib.hid hb; clear hb))
  all_goals go_ret
  all_goals refine ⟨ret_bool ?_, by first | exact below_next (below_next HB.out hb'.out) hb2.out | exact below_next HB.out hb'.out⟩
  all_goals clear hc hsc' HD HS HR HC HB hb'
  all_goals try clear hb2
  all_goals unfold softB
  all_goals rw [hq]
  all_goals clear hq
  all_goals by_cases e2 : s.costs.length = s.rows.length
  all_goals try (simp [*]; done)
  all_goals (exfalso; omega)
end Go.Proofs.YtoahaigfjfeopaaGreatDoor
