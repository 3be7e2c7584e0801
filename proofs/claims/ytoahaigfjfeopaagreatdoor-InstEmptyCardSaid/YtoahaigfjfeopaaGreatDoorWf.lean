/- slices.IndexFunc and ContainsFunc over inst.Right's closures; inst.Right. -/
import Derived.Test.YtoahaigfjfeopaaGreatDoorWe
namespace Go.Proofs.YtoahaigfjfeopaaGreatDoor
open Go.RowKit

set_option maxRecDepth 100000 in
theorem index1_any (v : Value) (xs : List (List Int)) (ok : Nat → Prop) (w : World) (h1 : Sl kRow w ok v xs) :
    Calls Tryz.prog 51 #[v, .func (.func 27) #[] #[]] w fun e w' => e = .returned (.int .i64 (findFrom (fun d => !domainB d) 0 xs)) ∧ Below w.heap.size w w' := by
  have H1 := h1
  obtain ⟨A, c, rfl, hc, hm, hA⟩ := h1
  clear hA
  go_enter Tryz.func51, Tryz.ntmps51
  go_wp2
  go_loopw [8] (fun i wr => ∃ k : Nat, i = .int .i64 k ∧ k ≤ xs.length ∧ Hid (findFrom (fun d => !domainB d) 0 xs = findFrom (fun d => !domainB d) k (xs.drop k)) ∧ Hid (Below w.heap.size w wr)) (fun i _ => xs.length - (intOf i).toNat)
  case atStart => exact ⟨0, rfl, by omega, Lib.hid rfl, Lib.hid (Below.refl _ _)⟩
  case round =>
    obtain ⟨k, rfl, hk, H, HB⟩ := hrel
    by_cases hlt : k < xs.length
    · obtain ⟨b, o, vt, rfl, c1, ht⟩ := (Sl.elems (H1.below (by decide) HB.out)).row hlt
      have H' := Lib.hid (findFrom_drop (fun d => !domainB d) [] xs k hlt)
      clear H1
      cases hs : domainB (nth [] xs k)
      · go_wp2_with (go_at_call 27; refine (right1_any _ _ _ _ ht).mono ?_; rintro e w' ⟨rfl, hb⟩; have hb' := Lib.hid hb; clear hb)
        go_ret
        exact ⟨ret_int (by rw [H.out, H'.out, hs]; simp), below_next HB.out hb'.out⟩
      · go_wp2_with (go_at_call 27; refine (right1_any _ _ _ _ ht).mono ?_; rintro e w' ⟨rfl, hb⟩; have hb' := Lib.hid hb; clear hb)
        go_roundw
        case rel => exact ⟨k + 1, by go_num, by omega, Lib.hid (by rw [H.out, H'.out, hs]; simp), Lib.hid (below_next HB.out hb'.out)⟩
        case measure => simp [intOf]; omega
    · go_wp2
      go_ret
      refine ⟨ret_int ?_, HB.out⟩
      rw [H.out, List.drop_eq_nil_of_le (by omega)]; rfl
theorem contains1_any (v : Value) (xs : List (List Int)) (ok : Nat → Prop) (w : World) (h1 : Sl kRow w ok v xs) :
    Calls Tryz.prog 26 #[v, .func (.func 27) #[] #[]] w fun e w' => e = .returned (.bool (xs.any (fun d => !domainB d))) ∧ Below w.heap.size w w' := by
  have hx := Lib.hid (findFrom_ge (fun d => !domainB d) xs 0)
  go_enter Tryz.func26, Tryz.ntmps26
  go_wp2_with (go_at_call 51; refine (index1_any _ _ _ _ h1).mono ?_; rintro e w' ⟨rfl, hb⟩; have hb' := Lib.hid hb; clear hb)
  go_ret
  exact ⟨ret_bool hx.out, hb'.out⟩

set_option maxRecDepth 100000 in
theorem index2_any (vD vH vS v : Value) (x : Ins) (xs : List Con) (ok : Nat → Prop) (w : World) (hD : Sl kRow w ok vD x.doms) (h1 : Sl kCon w ok v xs) (g : Nat) (hg : w.heap[g]? = some (.cells #[vD, vH, vS] 26 (0, 0))) :
    Calls Tryz.prog 54 #[v, .func (.func 30) #[] #[.pointer (some ⟨g, 0, none⟩)]] w fun e w' => e = .returned (.int .i64 (findFrom (fun c => !hardB x c) 0 xs)) ∧ Below w.heap.size w w' := by
  have H1 := h1
  have HD := hD
  have HG := Lib.hid hg
  obtain ⟨A, c, rfl, hc, hm, hA⟩ := h1
  clear hA hD hg
  go_enter Tryz.func54, Tryz.ntmps54
  go_wp2
  go_loopw [8] (fun i wr => ∃ k : Nat, i = .int .i64 k ∧ k ≤ xs.length ∧ Hid (findFrom (fun c => !hardB x c) 0 xs = findFrom (fun c => !hardB x c) k (xs.drop k)) ∧ Hid (Below w.heap.size w wr)) (fun i _ => xs.length - (intOf i).toNat)
  case atStart => exact ⟨0, rfl, by omega, Lib.hid rfl, Lib.hid (Below.refl _ _)⟩
  case round =>
    obtain ⟨k, rfl, hk, H, HB⟩ := hrel
    by_cases hlt : k < xs.length
    · obtain ⟨b, o, cs, rfl, _, hK, hcell⟩ := (Sl.elems (H1.below (by decide) HB.out)) k (nth default xs k) (nth_get default xs k hlt)
      obtain ⟨vs, vr, va, rfl, e1, e2, e3⟩ := kCon_cells hK
      have f0 := hcell 0 _ rfl
      have f1 := hcell 1 _ rfl
      have f2 := hcell 2 _ rfl
      have f3 := hcell 3 _ rfl
      simp only [show kCon.sz = 4 from rfl, Nat.add_zero, ← Nat.add_assoc] at f0 f1 f2 f3
      clear hcell hK
      have H' := Lib.hid (findFrom_drop (fun c => !hardB x c) default xs k hlt)
      have HD' := HD.below (by decide) HB.out
      have HG' := Lib.hid (block_kept HB.out HG.out)
      clear H1 HD HG
      cases hs : hardB x (nth default xs k)
      · go_wp2_with (go_at_call 30; refine (right2_any _ vH vS _ _ _ x _ ok _ HD' e1 e2 e3 g HG'.out).mono ?_; rintro e w' ⟨rfl, hb⟩; have hb' := Lib.hid hb; clear hb)
        go_ret
        exact ⟨ret_int (by rw [H.out, H'.out, hs]; simp), below_next HB.out hb'.out⟩
      · go_wp2_with (go_at_call 30; refine (right2_any _ vH vS _ _ _ x _ ok _ HD' e1 e2 e3 g HG'.out).mono ?_; rintro e w' ⟨rfl, hb⟩; have hb' := Lib.hid hb; clear hb)
        go_roundw
        case rel => exact ⟨k + 1, by go_num, by omega, Lib.hid (by rw [H.out, H'.out, hs]; simp), Lib.hid (below_next HB.out hb'.out)⟩
        case measure => simp [intOf]; omega
    · go_wp2
      go_ret
      refine ⟨ret_int ?_, HB.out⟩
      rw [H.out, List.drop_eq_nil_of_le (by omega)]; rfl
theorem contains2_any (vD vH vS v : Value) (x : Ins) (xs : List Con) (ok : Nat → Prop) (w : World) (hD : Sl kRow w ok vD x.doms) (h1 : Sl kCon w ok v xs) (g : Nat) (hg : w.heap[g]? = some (.cells #[vD, vH, vS] 26 (0, 0))) :
    Calls Tryz.prog 29 #[v, .func (.func 30) #[] #[.pointer (some ⟨g, 0, none⟩)]] w fun e w' => e = .returned (.bool (xs.any (fun c => !hardB x c))) ∧ Below w.heap.size w w' := by
  have hx := Lib.hid (findFrom_ge (fun c => !hardB x c) xs 0)
  have hc := Lib.hid (index2_any vD vH vS v x xs ok w hD h1 g hg)
  clear hD h1 hg
  go_enter Tryz.func29, Tryz.ntmps29
  go_wp2_with (go_at_call 54; refine hc.out.mono ?_; rintro e w' ⟨rfl, hb⟩; have hb' := Lib.hid hb; clear hb)
  go_ret
  exact ⟨ret_bool hx.out, hb'.out⟩

set_option maxRecDepth 100000 in
theorem index3_any (vD vH vS v : Value) (x : Ins) (xs : List Sft) (ok : Nat → Prop) (w : World) (hD : Sl kRow w ok vD x.doms) (h1 : Sl kSft w ok v xs) (g : Nat) (hg : w.heap[g]? = some (.cells #[vD, vH, vS] 26 (0, 0))) :
    Calls Tryz.prog 58 #[v, .func (.func 33) #[] #[.pointer (some ⟨g, 0, none⟩)]] w fun e w' => e = .returned (.int .i64 (findFrom (fun c => !softB x c) 0 xs)) ∧ Below w.heap.size w w' := by
  have H1 := h1
  have HD := hD
  have HG := Lib.hid hg
  obtain ⟨A, c, rfl, hc, hm, hA⟩ := h1
  clear hA hD hg
  go_enter Tryz.func58, Tryz.ntmps58
  go_wp2
  go_loopw [8] (fun i wr => ∃ k : Nat, i = .int .i64 k ∧ k ≤ xs.length ∧ Hid (findFrom (fun c => !softB x c) 0 xs = findFrom (fun c => !softB x c) k (xs.drop k)) ∧ Hid (Below w.heap.size w wr)) (fun i _ => xs.length - (intOf i).toNat)
  case atStart => exact ⟨0, rfl, by omega, Lib.hid rfl, Lib.hid (Below.refl _ _)⟩
  case round =>
    obtain ⟨k, rfl, hk, H, HB⟩ := hrel
    by_cases hlt : k < xs.length
    · obtain ⟨b, o, cs, rfl, _, hK, hcell⟩ := (Sl.elems (H1.below (by decide) HB.out)) k (nth default xs k) (nth_get default xs k hlt)
      obtain ⟨vs, vr, vc, rfl, e1, e2, e3⟩ := kSft_cells hK
      have f0 := hcell 0 _ rfl
      have f1 := hcell 1 _ rfl
      have f2 := hcell 2 _ rfl
      have f3 := hcell 3 _ rfl
      simp only [show kSft.sz = 4 from rfl, Nat.add_zero, ← Nat.add_assoc] at f0 f1 f2 f3
      clear hcell hK
      have H' := Lib.hid (findFrom_drop (fun c => !softB x c) default xs k hlt)
      have HD' := HD.below (by decide) HB.out
      have HG' := Lib.hid (block_kept HB.out HG.out)
      clear H1 HD HG
      cases hs : softB x (nth default xs k)
      · go_wp2_with (go_at_call 33; refine (right3_any _ vH vS _ _ _ x _ ok _ HD' e1 e2 e3 g HG'.out).mono ?_; rintro e w' ⟨rfl, hb⟩; have hb' := Lib.hid hb; clear hb)
        go_ret
        exact ⟨ret_int (by rw [H.out, H'.out, hs]; simp), below_next HB.out hb'.out⟩
      · go_wp2_with (go_at_call 33; refine (right3_any _ vH vS _ _ _ x _ ok _ HD' e1 e2 e3 g HG'.out).mono ?_; rintro e w' ⟨rfl, hb⟩; have hb' := Lib.hid hb; clear hb)
        go_roundw
        case rel => exact ⟨k + 1, by go_num, by omega, Lib.hid (by rw [H.out, H'.out, hs]; simp), Lib.hid (below_next HB.out hb'.out)⟩
        case measure => simp [intOf]; omega
    · go_wp2
      go_ret
      refine ⟨ret_int ?_, HB.out⟩
      rw [H.out, List.drop_eq_nil_of_le (by omega)]; rfl
theorem contains3_any (vD vH vS v : Value) (x : Ins) (xs : List Sft) (ok : Nat → Prop) (w : World) (hD : Sl kRow w ok vD x.doms) (h1 : Sl kSft w ok v xs) (g : Nat) (hg : w.heap[g]? = some (.cells #[vD, vH, vS] 26 (0, 0))) :
    Calls Tryz.prog 32 #[v, .func (.func 33) #[] #[.pointer (some ⟨g, 0, none⟩)]] w fun e w' => e = .returned (.bool (xs.any (fun c => !softB x c))) ∧ Below w.heap.size w w' := by
  have hx := Lib.hid (findFrom_ge (fun c => !softB x c) xs 0)
  have hc := Lib.hid (index3_any vD vH vS v x xs ok w hD h1 g hg)
  clear hD h1 hg
  go_enter Tryz.func32, Tryz.ntmps32
  go_wp2_with (go_at_call 58; refine hc.out.mono ?_; rintro e w' ⟨rfl, hb⟩; have hb' := Lib.hid hb; clear hb)
  go_ret
  exact ⟨ret_bool hx.out, hb'.out⟩

set_option maxRecDepth 100000 in
theorem right_any (vD vH vS : Value) (x : Ins) (ok : Nat → Prop) (w : World) (hD : Sl kRow w ok vD x.doms) (hH : Sl kCon w ok vH x.hard) (hS : Sl kSft w ok vS x.soft) :
    Calls Tryz.prog 14 #[.agg #[vD, vH, vS]] w fun e w' => e = .returned (.bool (rightB x)) ∧ Below w.heap.size w w' := by
  obtain ⟨AD, cD, rfl, hcD, hmD, hAD⟩ := hD
  obtain ⟨AH, cH, rfl, hcH, hmH, hAH⟩ := hH
  obtain ⟨AS, cS, rfl, hcS, hmS, hAS⟩ := hS
  have HB := Lib.hid (below_alloc1 w (.cells #[.slice AD x.doms.length cD, .slice AH x.hard.length cH, .slice AS x.soft.length cS] 26))
  have HD := Sl.below (v := .slice AD x.doms.length cD) (xs := x.doms) (by decide) ⟨AD, cD, rfl, hcD, hmD, hAD⟩ HB.out
  have HH := Sl.below (v := .slice AH x.hard.length cH) (xs := x.hard) (by decide) ⟨AH, cH, rfl, hcH, hmH, hAH⟩ HB.out
  have HS := Sl.below (v := .slice AS x.soft.length cS) (xs := x.soft) (by decide) ⟨AS, cS, rfl, hcS, hmS, hAS⟩ HB.out
  have hg : (w.alloc (.cells #[.slice AD x.doms.length cD, .slice AH x.hard.length cH, .slice AS x.soft.length cS] 26)).heap[w.heap.size]? = some (.cells #[.slice AD x.doms.length cD, .slice AH x.hard.length cH, .slice AS x.soft.length cS] 26 (0, 0)) := heap_alloc_new w _
  have HG := Lib.hid hg
  clear hg hAD hAH hAS
  obtain ⟨q1, hq1⟩ : ∃ q, (x.doms.any fun d => !domainB d) = q := ⟨_, rfl⟩
  obtain ⟨q2, hq2⟩ : ∃ q, (x.hard.any fun c => !hardB x c) = q := ⟨_, rfl⟩
  obtain ⟨q3, hq3⟩ : ∃ q, (x.soft.any fun c => !softB x c) = q := ⟨_, rfl⟩
  have hr : Hid (rightB x = (decide (x.doms.length ≤ 40) && decide (x.hard.length ≤ 200) && decide (x.soft.length ≤ 200) && !q1 && !q2 && !q3)) := by
    apply Lib.hid
    unfold rightB
    rw [List.all_eq_not_any_not, List.all_eq_not_any_not, List.all_eq_not_any_not, hq1, hq2, hq3]
  have hc1 := Lib.hid (contains1_any _ _ ok _ HD)
  rw [hq1] at hc1
  have hc2 := fun W (hb : Below _ _ W) => contains2_any _ _ _ _ x x.hard ok W (HD.below (by decide) hb) (HH.below (by decide) hb) _ (block_kept hb HG.out)
  have hc3 := fun W (hb : Below _ _ W) => contains3_any _ _ _ _ x x.soft ok W (HD.below (by decide) hb) (HS.below (by decide) hb) _ (block_kept hb HG.out)
  rw [hq2] at hc2
  rw [hq3] at hc3
  have Hc2 := Lib.hid hc2
  have Hc3 := Lib.hid hc3
  clear hc2 hc3 hq1 hq2 hq3 HD HH HS
  go_enter Tryz.func14, Tryz.ntmps14
  go_wp2_with (first
    | (go_at_call 26; refine hc1.out.mono ?_; rintro e w' ⟨rfl, hb⟩; (obtain ⟨hc, hb1⟩ : (∀ b o, _ → _) ∧ Hid _ := ⟨bcell hb, Lib.hid hb⟩); clear hb)
    | (go_at_call 29; refine (Hc2.out _ hb1.out).mono ?_; rintro e w' ⟨rfl, hb⟩; (obtain ⟨hc', hb2⟩ : (∀ b o, _ → _) ∧ Hid _ := ⟨bcell (below_next hb1.out hb), Lib.hid (below_next hb1.out hb)⟩); clear hb hc hb1)
    | (go_at_call 32; refine (Hc3.out _ hb2.out).mono ?_; rintro e w' ⟨rfl, hb⟩; (obtain ⟨hc, hb1⟩ : (∀ b o, _ → _) ∧ Hid _ := ⟨bcell (below_next hb2.out hb), Lib.hid (below_next hb2.out hb)⟩); clear hb hc' hb2))
  all_goals go_ret
  all_goals refine ⟨ret_bool ?_, by first | exact below_next HB.out hb1.out | exact below_next HB.out hb2.out | exact HB.out⟩
  all_goals rw [hr.out]
  all_goals try (simp [*]; done)
  all_goals by_cases e1 : x.doms.length ≤ 40
  all_goals by_cases e2 : x.hard.length ≤ 200
  all_goals by_cases e3 : x.soft.length ≤ 200
  all_goals try (exfalso; omega)
  all_goals try (simp [*]; done)
  all_goals go_ways
end Go.Proofs.YtoahaigfjfeopaaGreatDoor
