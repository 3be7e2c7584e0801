/- inst.Right: its closures, slices.IndexFunc and ContainsFunc over them. -/
import Derived.Test.YtoahaigfjfeopaaGreatDoorWd
namespace Go.Proofs.YtoahaigfjfeopaaGreatDoor
open Go.RowKit

theorem right1_any (v : Value) (d : List Int) (ok : Nat → Prop) (w : World) (h : Sl (Kd.int .i64) w ok v d) :
    Calls Tryz.prog 27 #[v] w fun e w' => e = .returned (.bool (!domainB d)) ∧ Below w.heap.size w w' := by
  go_enter Tryz.func27, Tryz.ntmps27
  go_wp2_with (go_at_call 28; refine (domain_any _ _ _ _ h).mono ?_; rintro e w' ⟨rfl, nd, rfl⟩)
  go_ret
  exact ⟨rfl, below_drewN (Below.refl _ _) _⟩

set_option maxRecDepth 100000 in
theorem right2_any (vD vH vS vs vr va : Value) (x : Ins) (c : Con) (ok : Nat → Prop) (w : World) (hD : Sl kRow w ok vD x.doms) (h1 : Sl (Kd.int .i64) w ok vs c.scope) (h2 : Sl kRow w ok vr c.rows) (h3 : Sl (Kd.int .i64) w ok va c.args)
    (g : Nat) (hg : w.heap[g]? = some (.cells #[vD, vH, vS] 26 (0, 0))) :
    Calls Tryz.prog 30 #[.agg #[.int .i64 c.kind, vs, vr, va], .pointer (some ⟨g, 0, none⟩)] w fun e w' => e = .returned (.bool (!hardB x c)) ∧ Below w.heap.size w w' := by
  have HB := below_alloc1 w (.cells #[.int .i64 c.kind, vs, vr, va] 43)
  have g0 := cell_kept HB (cell_at hg (i := 0) (u := vD) rfl)
  have g1 := cell_kept HB (cell_at hg (i := 1) (u := vH) rfl)
  have g2 := cell_kept HB (cell_at hg (i := 2) (u := vS) rfl)
  have hcall := Lib.hid (hard_any _ vH vS _ _ _ x c ok _ (hD.below (by decide) HB) (h1.below (by decide) HB) (h2.below (by decide) HB) (h3.below (by decide) HB))
  clear hD h1 h2 h3 hg
  have HB' := Lib.hid HB
  clear HB
  go_enter Tryz.func30, Tryz.ntmps30
  go_wp2_with (go_at_call 31; refine hcall.out.mono ?_; rintro e w' ⟨rfl, hb⟩; have hb' := Lib.hid hb; clear hb)
  go_ret
  exact ⟨rfl, below_next HB'.out hb'.out⟩

set_option maxRecDepth 100000 in
theorem right3_any (vD vH vS vs vr vc : Value) (x : Ins) (s : Sft) (ok : Nat → Prop) (w : World) (hD : Sl kRow w ok vD x.doms) (h1 : Sl (Kd.int .i64) w ok vs s.scope) (h2 : Sl kRow w ok vr s.rows) (h3 : Sl (Kd.int .i64) w ok vc s.costs)
    (g : Nat) (hg : w.heap[g]? = some (.cells #[vD, vH, vS] 26 (0, 0))) :
    Calls Tryz.prog 33 #[.agg #[vs, vr, vc, .int .i64 s.dflt], .pointer (some ⟨g, 0, none⟩)] w fun e w' => e = .returned (.bool (!softB x s)) ∧ Below w.heap.size w w' := by
  have HB := below_alloc1 w (.cells #[vs, vr, vc, .int .i64 s.dflt] 47)
  have g0 := cell_kept HB (cell_at hg (i := 0) (u := vD) rfl)
  have g1 := cell_kept HB (cell_at hg (i := 1) (u := vH) rfl)
  have g2 := cell_kept HB (cell_at hg (i := 2) (u := vS) rfl)
  have hcall := Lib.hid (soft_any _ vH vS _ _ _ x s ok _ (hD.below (by decide) HB) (h1.below (by decide) HB) (h2.below (by decide) HB) (h3.below (by decide) HB))
  clear hD h1 h2 h3 hg
  have HB' := Lib.hid HB
  clear HB
  go_enter Tryz.func33, Tryz.ntmps33
  go_wp2_with (go_at_call 34; refine hcall.out.mono ?_; rintro e w' ⟨rfl, hb⟩; have hb' := Lib.hid hb; clear hb)
  go_ret
  exact ⟨rfl, below_next HB'.out hb'.out⟩
end Go.Proofs.YtoahaigfjfeopaaGreatDoor
