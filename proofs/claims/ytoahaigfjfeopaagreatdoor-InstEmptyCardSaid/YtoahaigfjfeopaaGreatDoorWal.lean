/- arboristlaw06.shown; the contracts in the form in which the laws use them. -/
import Derived.Test.YtoahaigfjfeopaaGreatDoorWak
import Derived.Test.YtoahaigfjfeopaaGreatDoorWm
import Derived.Test.YtoahaigfjfeopaaGreatDoorPg
namespace Go.Proofs.YtoahaigfjfeopaaGreatDoor
open Go.RowKit
attribute [local irreducible] wpStill wpLex Calls

theorem Env.env0 {w : World} (h : Env w) : Env0 w := ⟨h.syn, h.rng⟩
theorem Env.tabs {w : World} (h : Env w) : Tabs w := ⟨h.words, h.hows⟩
/-- Anywhere. -/
def Any (_ : Nat) : Prop := True
theorem InsAt.below {w w1 : World} {ok : Nat → Prop} {dv hv sv : Value} {y : Ins} (h : InsAt w ok dv hv sv y) (hb : Below w.heap.size w w1) : InsAt w1 ok dv hv sv y :=
  ⟨h.1.below (by decide) hb, h.2.1.below (by decide) hb, h.2.2.below (by decide) hb⟩
theorem InsAt.mono {w : World} {ok ok' : Nat → Prop} {dv hv sv : Value} {y : Ins} (h : InsAt w ok dv hv sv y) (hk : ∀ k, ok k → ok' k) : InsAt w ok' dv hv sv y :=
  ⟨h.1.mono hk, h.2.1.mono hk, h.2.2.mono hk⟩
theorem InsAt.nil (w : World) (ok : Nat → Prop) : InsAt w ok (.slice none 0 0) (.slice none 0 0) (.slice none 0 0) ⟨[], [], []⟩ :=
  ⟨⟨none, 0, rfl, Nat.le_refl _, by simp, fun j x hx => by simp at hx⟩, ⟨none, 0, rfl, Nat.le_refl _, by simp, fun j x hx => by simp at hx⟩, ⟨none, 0, rfl, Nat.le_refl _, by simp, fun j x hx => by simp at hx⟩⟩
theorem reads_ok (l : List UInt8) (y : Ins) (w : World) (hE : Env w) (hl : l.length ≤ 140737488355328) (hq : parseP l = .ok y) :
    Calls Tryz.prog 18 #[.string ⟨l.toArray⟩] w fun e w' => (∃ DA Dc HA Hc SA Sc, e = .returned (.tuple #[.agg #[.slice DA y.doms.length Dc, .slice HA y.hard.length Hc, .slice SA y.soft.length Sc], .int .i64 0, .int .i64 0]) ∧ InsAt w' Any (.slice DA y.doms.length Dc) (.slice HA y.hard.length Hc) (.slice SA y.soft.length Sc) y ∧ y.doms.length ≤ 40 ∧ y.hard.length ≤ 200 ∧ y.soft.length ≤ 200) ∧ Below w.heap.size w w' := by
  refine (parse_any l w hE.env0 hE.tabs hE.size hl).mono ?_
  rintro e w' ⟨h, hb⟩
  rw [hq] at h
  obtain ⟨dv, hv, sv, rfl, hi, h1, h2, h3⟩ := h
  have hi' := hi.mono (ok' := Any) (fun _ _ => trivial)
  obtain ⟨⟨A1, c1, rfl, _⟩, ⟨A2, c2, rfl, _⟩, ⟨A3, c3, rfl, _⟩⟩ := hi
  exact ⟨⟨A1, c1, A2, c2, A3, c3, rfl, hi', h1, h2, h3⟩, hb⟩
theorem reads_err (l : List UInt8) (p x : Int) (w : World) (hE : Env w) (hl : l.length ≤ 140737488355328) (hq : parseP l = .error (p, x)) :
    Calls Tryz.prog 18 #[.string ⟨l.toArray⟩] w fun e w' => e = .returned (.tuple #[.agg #[.slice none 0 0, .slice none 0 0, .slice none 0 0], .int .i64 p, .int .i64 x]) ∧ Below w.heap.size w w' := by
  refine (parse_any l w hE.env0 hE.tabs hE.size hl).mono ?_
  rintro e w' ⟨h, hb⟩
  rw [hq] at h
  exact ⟨h, hb⟩

set_option maxRecDepth 100000 in
set_option maxHeartbeats 4000000 in
theorem shown_any (w : World) (hE : Env w) :
    Calls Tryz.prog 11 #[] w fun e w' => e = .returned (.bool true) ∧ Below w.heap.size w w' := by
  have HE := Lib.hid hE
  have HP := Lib.hid (reads_ok _ _ w hE (by decide) parse_t1)
  clear hE
  go_enter Tryz.func11, Tryz.ntmps11
  go_wp2_with (go_at_call 18; refine HP.out.mono ?_; rintro e w1 ⟨⟨DA, Dc, HA, Hc, SA, Sc, rfl, hi, _⟩, hb⟩; (have HI := Lib.hid hi); (have HB1 := Lib.hid hb); clear hi hb HP)
  have hb1 := HB1.out.alloc HB1.out.size (.cells #[.slice DA 1 Dc, .slice HA 1 Hc, .slice SA 0 Sc] 26)
  have HX1 := Lib.hid (heap_alloc_new w1 (.cells #[.slice DA 1 Dc, .slice HA 1 Hc, .slice SA 0 Sc] 26))
  have HI1 := Lib.hid (HI.out.below (below_alloc1 w1 (.cells #[.slice DA 1 Dc, .slice HA 1 Hc, .slice SA 0 Sc] 26)))
  have HP2 := Lib.hid (reads_err _ _ _ _ (HE.out.below hb1 HE.out.size) (by decide) parse_t2)
  have HB2 := Lib.hid hb1
  clear hb1 HI HB1
  generalize w1.alloc (.cells #[.slice DA 1 Dc, .slice HA 1 Hc, .slice SA 0 Sc] 26) = W1 at *
  refine HP2.out.mono ?_
  rintro e w2 ⟨rfl, hb⟩
  have hb2 := (below_next HB2.out hb).alloc (below_next HB2.out hb).size (.cells #[.slice none 0 0, .slice none 0 0, .slice none 0 0] 26)
  have hk2 := hb.alloc hb.size (.cells #[.slice none 0 0, .slice none 0 0, .slice none 0 0] 26)
  have HX2 := Lib.hid (block_kept hk2 HX1.out)
  have HI2 := Lib.hid (HI1.out.below hk2)
  have HP3 := Lib.hid (reads_err _ _ _ _ (HE.out.below hb2 HE.out.size) (by decide) parse_t3)
  have HB3 := Lib.hid hb2
  clear hb hb2 hk2 HP2 HB2 HX1 HI1
  go_wp2_with fail
  generalize w2.alloc (.cells #[.slice none 0 0, .slice none 0 0, .slice none 0 0] 26) = W2 at *
  refine HP3.out.mono ?_
  rintro e w3 ⟨rfl, hb⟩
  have hb2 := (below_next HB3.out hb).alloc (below_next HB3.out hb).size (.cells #[.slice none 0 0, .slice none 0 0, .slice none 0 0] 26)
  have hk2 := hb.alloc hb.size (.cells #[.slice none 0 0, .slice none 0 0, .slice none 0 0] 26)
  have HX3 := Lib.hid (block_kept hk2 HX2.out)
  have HI3 := Lib.hid (HI2.out.below hk2)
  have HB4 := Lib.hid hb2
  clear hb hb2 hk2 HP3 HB3 HX2 HI2
  have x0 := cell_at HX3.out (i := 0) rfl
  have x1 := cell_at HX3.out (i := 1) rfl
  have x2 := cell_at HX3.out (i := 2) rfl
  obtain ⟨b, o, cs, hA, _, hK, hcell⟩ := HI3.out.2.1.elems 0 _ rfl
  obtain ⟨vs, vr, va, rfl, e1, e2, e3⟩ := kCon_cells hK
  have f0 := hcell 0 _ rfl
  simp only [Nat.zero_mul, Nat.add_zero] at f0
  subst hA
  clear hcell hK e1 e2 e3
  go_wp2_with fail
  generalize w3.alloc (.cells #[.slice none 0 0, .slice none 0 0, .slice none 0 0] 26) = W3 at *
  have HR := Lib.hid (right_any _ _ _ _ _ _ HI3.out.1 HI3.out.2.1 HI3.out.2.2)
  rw [right_t1] at HR
  go_wp2_with (first
    | (go_at_call 14; refine HR.out.mono ?_; rintro e w5 ⟨rfl, hb⟩; (have HX5 := Lib.hid (block_kept hb HX3.out)); (have HI5 := Lib.hid (HI3.out.below hb)); (have HB5 := Lib.hid (below_next HB4.out hb)); (have x0 := cell_at HX5.out (i := 0) rfl); (have x1 := cell_at HX5.out (i := 1) rfl); (have x2 := cell_at HX5.out (i := 2) rfl); (have HPR := Lib.hid (print_any _ _ _ _ _ w5 (HE.out.below HB5.out HE.out.size) HI5.out.1 HI5.out.2.1 HI5.out.2.2 (by rw [print_t1]; decide))); clear hb HX3 HI3 HB4 HR)
    | (go_at_call 15; rw [print_t1] at HPR; refine HPR.out.mono ?_; rintro e w6 ⟨rfl, hb⟩; (have HB6 := Lib.hid (below_next HB5.out hb)); clear hb HPR))
  go_ret
  exact ⟨rfl, HB6.out⟩
end Go.Proofs.YtoahaigfjfeopaaGreatDoor
