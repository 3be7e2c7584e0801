/- inst.Print. -/
import Derived.Test.YtoahaigfjfeopaaGreatDoorWl
import Derived.Test.YtoahaigfjfeopaaGreatDoorWf
import Derived.Test.YtoahaigfjfeopaaGreatDoorPd
namespace Go.Proofs.YtoahaigfjfeopaaGreatDoor
open Go.RowKit

theorem hardw_any (b : Nat) (l : List UInt8) (vs vr va : Value) (x : Ins) (c : Con) (ok : Nat → Prop) (w : World) (hB : Bld b l w) (hE : Env w) (hb8 : 8 ≤ b) (hS : Stays b w ok) (h1 : Sl (Kd.int .i64) w ok vs c.scope) (h2 : Sl kRow w ok vr c.rows) (h3 : Sl (Kd.int .i64) w ok va c.args)
    (hx : rightB x = true) (hc : hardB x c = true) (hlen : l.length + (hardP c).length ≤ 140737488355328) :
    Calls Tryz.prog 37 #[.pointer (some ⟨b, 0, none⟩), .agg #[.int .i64 c.kind, vs, vr, va]] w fun e w' => e = .returned (.tuple #[]) ∧ Bld b (l ++ hardP c) w' ∧ Kep b w w' := by
  simp only [hardB, Bool.and_eq_true, decide_eq_true_eq] at hc
  obtain ⟨⟨⟨⟨hs, hk1⟩, hk6⟩, hk2⟩, hr⟩ := hc
  have hf := scope_fits (right_doms hx).1 hs
  by_cases h6 : c.kind = 6
  · rw [if_pos h6] at hr
    simp only [linearB, Bool.and_eq_true, decide_eq_true_eq] at hr
    obtain ⟨⟨⟨ha, hh0⟩, hh2⟩, hb⟩ := hr
    exact hard_linear b l vs vr va c ok w hB hE hb8 hS h1 h6 h3 ha hh0 hh2 hf (fun k hk => (argsB_fits _ _ _ hb k hk).fit) hlen
  · rw [if_neg h6] at hr
    simp only [Bool.and_eq_true, decide_eq_true_eq] at hr
    by_cases h3' : 2 < c.kind
    · exact hard_plain b l vs vr va c ok w hB hE hb8 hS h1 h3' (by omega) hf hlen
    · have h2c := h2
      obtain ⟨_, _, _, _, hm, _⟩ := h2c
      exact hard_table b l vs vr va c ok w hB hE hb8 hS h1 hk1 (by omega) h2 hf (fun k hk => fun j hj => (rowsB_fits (doms_fits hx) (scopeB_range hs) c.rows none hr.2 k hk).2 j hj |>.fit) hm hlen
theorem softx_any (b : Nat) (l : List UInt8) (vs vr vc : Value) (x : Ins) (s : Sft) (ok : Nat → Prop) (w : World) (hB : Bld b l w) (hE : Env w) (hb8 : 8 ≤ b) (hS : Stays b w ok) (h1 : Sl (Kd.int .i64) w ok vs s.scope) (h2 : Sl kRow w ok vr s.rows) (h3 : Sl (Kd.int .i64) w ok vc s.costs)
    (hx : rightB x = true) (hc : softB x s = true) (hlen : l.length + (softP s).length ≤ 140737488355328) :
    Calls Tryz.prog 38 #[.pointer (some ⟨b, 0, none⟩), .agg #[vs, vr, vc, .int .i64 s.dflt]] w fun e w' => e = .returned (.tuple #[]) ∧ Bld b (l ++ softP s) w' ∧ Kep b w w' := by
  simp only [softB, Bool.and_eq_true, decide_eq_true_eq] at hc
  obtain ⟨⟨⟨⟨hs, hl⟩, hd⟩, hw⟩, hr⟩ := hc
  exact softw_any b l vs vr vc s ok w hB hE hb8 hS h1 h2 h3 hl.symm (scope_fits (right_doms hx).1 hs) (fun k hk => fun j hj => (rowsB_fits (doms_fits hx) (scopeB_range hs) s.rows none hr k hk).2 j hj |>.fit) (wideAny_fits (by simpa using hw)) (small_bounds hd) hlen
theorem flat_step {α : Type} (f : α → List UInt8) (z : α) (l : List α) (k : Nat) (h : k < l.length) : (l.take (k + 1)).flatMap f = (l.take k).flatMap f ++ f (nth z l k) := by
  rw [take_snoc z l k h]; simp
theorem flat_take_le {α : Type} (f : α → List UInt8) (l : List α) (k : Nat) : ((l.take k).flatMap f).length ≤ (l.flatMap f).length := by
  have : l.flatMap f = (l.take k).flatMap f ++ (l.drop k).flatMap f := by rw [← List.flatMap_append, List.take_append_drop]
  rw [this, List.length_append]; omega

set_option maxRecDepth 100000 in
set_option maxHeartbeats 1000000 in
theorem print_wrong (vD vH vS : Value) (x : Ins) (ok : Nat → Prop) (w : World) (hD : Sl kRow w ok vD x.doms) (hH : Sl kCon w ok vH x.hard) (hS : Sl kSft w ok vS x.soft) (hr : rightB x = false) :
    Calls Tryz.prog 15 #[.agg #[vD, vH, vS]] w fun e w' => e = .returned (.string ⟨(printP x).toArray⟩) ∧ Below w.heap.size w w' := by
  have hP : printP x = [] := by unfold printP; rw [hr]; rfl
  obtain ⟨AD, cD, rfl, hcD, hmD, hAD⟩ := hD
  obtain ⟨AH, cH, rfl, hcH, hmH, hAH⟩ := hH
  obtain ⟨AS, cS, rfl, hcS, hmS, hAS⟩ := hS
  have HB := Lib.hid (below_alloc1 w (.cells #[.slice AD x.doms.length cD, .slice AH x.hard.length cH, .slice AS x.soft.length cS] 26))
  have HR := Lib.hid (right_any _ _ _ x ok _ (Sl.below (v := .slice AD x.doms.length cD) (xs := x.doms) (by decide) ⟨AD, cD, rfl, hcD, hmD, hAD⟩ HB.out) (Sl.below (v := .slice AH x.hard.length cH) (xs := x.hard) (by decide) ⟨AH, cH, rfl, hcH, hmH, hAH⟩ HB.out) (Sl.below (v := .slice AS x.soft.length cS) (xs := x.soft) (by decide) ⟨AS, cS, rfl, hcS, hmS, hAS⟩ HB.out))
  have HP := Lib.hid hP
  have Hr := Lib.hid hr
  clear hP hr hAD hAH hAS
  go_enter Tryz.func15, Tryz.ntmps15
  go_wp2_with (go_at_call 14; refine HR.out.mono ?_; rintro e w' ⟨rfl, hb⟩; rw [Hr.out]; have hb' := Lib.hid hb; clear hb)
  go_ret
  exact ⟨ret_str (by rw [HP.out]), below_next HB.out hb'.out⟩

set_option maxRecDepth 100000 in
set_option maxHeartbeats 2000000 in
theorem print_right (vD vH vS : Value) (x : Ins) (ok : Nat → Prop) (w : World) (hE : Env w) (hD : Sl kRow w ok vD x.doms) (hH : Sl kCon w ok vH x.hard) (hS : Sl kSft w ok vS x.soft) (hr : rightB x = true) (hlen : (printP x).length ≤ 140737488355328) :
    Calls Tryz.prog 15 #[.agg #[vD, vH, vS]] w fun e w' => e = .returned (.string ⟨(printP x).toArray⟩) ∧ Below w.heap.size w w' := by
  have hP : printP x = domsP x.doms ++ (hardsP x.hard ++ softsP x.soft) := by unfold printP; rw [if_pos hr, List.append_assoc]
  obtain ⟨AD, cD, rfl, hcD, hmD, hAD⟩ := hD
  obtain ⟨AH, cH, rfl, hcH, hmH, hAH⟩ := hH
  obtain ⟨AS, cS, rfl, hcS, hmS, hAS⟩ := hS
  have hl : (domsP x.doms).length + (hardsP x.hard).length + (softsP x.soft).length ≤ 140737488355328 := by rw [hP, List.length_append, List.length_append] at hlen; omega
  have HB := Lib.hid (below_alloc1 w (.cells #[.slice AD x.doms.length cD, .slice AH x.hard.length cH, .slice AS x.soft.length cS] 26))
  have HD0 := Sl.move (v := .slice AD x.doms.length cD) (xs := x.doms) (by decide) (fun k _ hk => HB.out.block k hk) ⟨AD, cD, rfl, hcD, hmD, hAD⟩
  have HH0 := Sl.move (v := .slice AH x.hard.length cH) (xs := x.hard) (by decide) (fun k _ hk => HB.out.block k hk) ⟨AH, cH, rfl, hcH, hmH, hAH⟩
  have HS0 := Sl.move (v := .slice AS x.soft.length cS) (xs := x.soft) (by decide) (fun k _ hk => HB.out.block k hk) ⟨AS, cS, rfl, hcS, hmS, hAS⟩
  have HR := Lib.hid (right_any _ _ _ x _ _ HD0 HH0 HS0)
  have HG := Lib.hid (heap_alloc_new w (.cells #[.slice AD x.doms.length cD, .slice AH x.hard.length cH, .slice AS x.soft.length cS] 26))
  have HE := Lib.hid (hE.below HB.out hE.size)
  have HP := Lib.hid hP
  have Hr := Lib.hid hr
  have Hd := Lib.hid (doms_fits hr)
  clear hP hr hAD hAH hAS hE hlen
  go_enter Tryz.func15, Tryz.ntmps15
  go_wp2_with fail
  refine HR.out.mono ?_
  rintro e W1 ⟨rfl, hb⟩
  rw [Hr.out]
  have hb2 := below_alloc1 W1 (.cells #[.pointer none, .slice none 0 0] 61)
  have Hb2 := Lib.hid (below_next hb hb2)
  have g0 := cell_kept hb2 (cell_at (block_kept hb HG.out) (i := 0) rfl)
  have g1 := cell_kept hb2 (cell_at (block_kept hb HG.out) (i := 1) rfl)
  have g2 := cell_kept hb2 (cell_at (block_kept hb HG.out) (i := 2) rfl)
  have Hblk := Lib.hid (block_kept hb2 (block_kept hb HG.out))
  have hsz := hb.size
  have hsz0 : w.heap.size < (w.alloc (.cells #[.slice AD x.doms.length cD, .slice AH x.hard.length cH, .slice AS x.soft.length cS] 26)).heap.size := by simp
  have HB0 : Hid (Bld W1.heap.size [] (W1.alloc (.cells #[.pointer none, .slice none 0 0] 61))) := Lib.hid ⟨_, _, .inl rfl, heap_alloc_new W1 _, World.ownsRow_nil _ _ _ _, by simp [Value.ownBlock], fun _ => rfl⟩
  have HE1 := Lib.hid (HE.out.below (below_next hb hb2) HE.out.size)
  have hb8 : 8 ≤ W1.heap.size := Nat.le_trans HE.out.size hb.size
  have Hst : Hid (Stays W1.heap.size (W1.alloc (.cells #[.pointer none, .slice none 0 0] 61)) (fun k => ok k ∧ k < w.heap.size)) := Lib.hid fun k hk => .inl (by have := hk.2; omega)
  have HD1 := Lib.hid (Sl.below (by decide) HD0 Hb2.out)
  have HH1 := Lib.hid (Sl.below (by decide) HH0 Hb2.out)
  have HS1 := Lib.hid (Sl.below (by decide) HS0 Hb2.out)
  have Hgw : Hid (w.heap.size < W1.heap.size) := Lib.hid (by omega)
  clear hb hb2 HD0 HH0 HS0 HR HG HE
  have Hvl : Hid (varT.length = 3) := Lib.hid rfl
  have Hel : Hid (endT.length = 2) := Lib.hid rfl
  have Hg : Hid ((W1.alloc (.cells #[.pointer none, .slice none 0 0] 61)).heap[w.heap.size]? = some (.cells #[.slice AD x.doms.length cD, .slice AH x.hard.length cH, .slice AS x.soft.length cS] 26 (0, 0))) := Lib.hid Hblk.out
  go_wp2
  go_loopw [16] (fun i wr => ∃ k : Nat, i = .int .i64 k ∧ k ≤ x.doms.length ∧ Hid (Bld W1.heap.size (domsP (x.doms.take k)) wr) ∧ Hid (Kep W1.heap.size (W1.alloc (.cells #[.pointer none, .slice none 0 0] 61)) wr)) (fun i _ => x.doms.length - (intOf i).toNat)
  case atStart => exact ⟨0, rfl, by omega, HB0, Lib.hid (Kep.refl _ _)⟩
  case round =>
    obtain ⟨k, rfl, hk, HBk, HKk⟩ := hrel
    clear g0 g1 g2
    by_cases hlt : k < x.doms.length
    · obtain ⟨b1, o1, vt, rfl, e1, ht⟩ := (Sl.elems (Hst.out.sl (by decide) HD1.out HKk.out)).row hlt
      have HT := Lib.hid ht
      have hst := flat_step (fun d => varT ++ numsP d ++ endT) [] x.doms k hlt
      have hle : (domsP (x.doms.take (k + 1))).length ≤ (domsP x.doms).length := flat_take_le _ x.doms (k + 1)
      have hst' : domsP (x.doms.take (k + 1)) = domsP (x.doms.take k) ++ (varT ++ numsP (nth [] x.doms k) ++ endT) := hst
      have hb3 : (domsP (x.doms.take k)).length + 3 + (numsP (nth [] x.doms k)).length + 2 ≤ (domsP x.doms).length := by
        rw [hst', List.length_append, List.length_append, List.length_append, Hvl.out, Hel.out] at hle; omega
      have Hst2 := Lib.hid hst'
      clear hst hst' hle
      go_wp2_with fail
      refine (writeString_any _ _ ⟨varT.toArray⟩ _ HBk.out (by rw [size_mk, Hvl.out]; omega)).mono ?_
      rintro e W2 ⟨rfl, hB2, hk2⟩
      have HB2 := Lib.hid hB2
      have HK2 := Lib.hid (HKk.out.trans hk2)
      have HKt := Lib.hid hk2
      clear hB2 hk2
      go_wp2_with fail
      refine (numbers_any _ _ _ (nth [] x.doms k) _ _ HB2.out (HE1.out.below HK2.out.below hb8) hb8 ((Hst.out.kep HKk.out).sl (by decide) HT.out HKt.out) (Hst.out.kep HK2.out) (fun j hj => (Hd.out k hlt j hj).fit) (by rw [List.length_append]; show _ + varT.length + _ ≤ _; rw [Hvl.out]; omega)).mono ?_
      rintro e W3 ⟨rfl, hB3, hk3⟩
      have HB3 := Lib.hid hB3
      have HK3 := Lib.hid (HK2.out.trans hk3)
      clear hB3 hk3
      go_wp2_with fail
      refine (writeString_any _ _ ⟨endT.toArray⟩ _ HB3.out (by rw [size_mk, Hel.out, List.length_append, List.length_append]; show _ + varT.length + _ + _ ≤ _; rw [Hvl.out]; omega)).mono ?_
      rintro e W4 ⟨rfl, hB4, hk4⟩
      have HB4 := Lib.hid hB4
      have HK4 := Lib.hid (HK3.out.trans hk4)
      clear hB4 hk4
      go_wp2
      go_roundw
      case rel => exact ⟨k + 1, by go_num, by omega, Lib.hid (by rw [Hst2.out]; simpa only [List.append_assoc] using HB4.out), HK4⟩
      case measure => simp [intOf]; omega
    · have HBx : Hid (Bld W1.heap.size (domsP x.doms) wr) := by
        have e : x.doms.take k = x.doms := List.take_of_length_le (by omega)
        rw [e] at HBk; exact HBk
      clear HBk HB0
      obtain ⟨wo, rfl⟩ : ∃ wo : World, wo = wr := ⟨_, rfl⟩
      have HKo := Lib.hid HKk.out
      have g1 : wo.cell? ⟨w.heap.size, 1, none⟩ = some (.slice AH x.hard.length cH) := cell_at ((HKk.out.below.block _ Hgw.out).trans Hg.out) (i := 1) rfl
      clear HKk
      go_wp2
      clear g1
      go_loopw [30] (fun i wr => ∃ k : Nat, i = .int .i64 k ∧ k ≤ x.hard.length ∧ Hid (Bld W1.heap.size (domsP x.doms ++ hardsP (x.hard.take k)) wr) ∧ Hid (Kep W1.heap.size (W1.alloc (.cells #[.pointer none, .slice none 0 0] 61)) wr)) (fun i _ => x.hard.length - (intOf i).toNat)
      case atStart => exact ⟨0, rfl, by omega, Lib.hid (by simpa [hardsP] using HBx.out), HKo⟩
      case round =>
        obtain ⟨k, rfl, hk, HBk, HKk⟩ := hrel
        by_cases hlt : k < x.hard.length
        · obtain ⟨b1, o1, cs, rfl, _, hK, hcell⟩ := (Sl.elems (Hst.out.sl (by decide) HH1.out HKk.out)) k (nth default x.hard k) (nth_get default x.hard k hlt)
          obtain ⟨us, ur, ua, rfl, q1, q2, q3⟩ := kCon_cells hK
          have f0 := hcell 0 _ rfl
          have f1 := hcell 1 _ rfl
          have f2 := hcell 2 _ rfl
          have f3 := hcell 3 _ rfl
          simp only [show kCon.sz = 4 from rfl, Nat.add_zero, ← Nat.add_assoc] at f0 f1 f2 f3
          clear hcell hK
          have q1' := q1
          have q2' := q2
          have q3' := q3
          obtain ⟨B0, m0, rfl, _, _, _⟩ := q1
          obtain ⟨B1, m1, rfl, _, _, _⟩ := q2
          obtain ⟨B2, m2, rfl, _, _, _⟩ := q3
          have hst := flat_step (fun c => hardP c ++ endT) default x.hard k hlt
          have hle : (hardsP (x.hard.take (k + 1))).length ≤ (hardsP x.hard).length := flat_take_le _ x.hard (k + 1)
          have hst' : hardsP (x.hard.take (k + 1)) = hardsP (x.hard.take k) ++ (hardP (nth default x.hard k) ++ endT) := hst
          have hb3 : (hardsP (x.hard.take k)).length + (hardP (nth default x.hard k)).length + 2 ≤ (hardsP x.hard).length := by
            rw [hst', List.length_append, List.length_append, Hel.out] at hle; omega
          have Hst2 := Lib.hid hst'
          have hwl := Lib.hid HBk.out.lt
          have HS2 := Lib.hid ((Hst.out.kep HKk.out).below (below_alloc1 wr (.cells #[.int .i64 (nth default x.hard k).kind, .slice B0 (nth default x.hard k).scope.length m0, .slice B1 (nth default x.hard k).rows.length m1, .slice B2 (nth default x.hard k).args.length m2] 43)))
          have hcall := Lib.hid (hardw_any W1.heap.size _ _ _ _ x (nth default x.hard k) _ (wr.alloc (.cells #[.int .i64 (nth default x.hard k).kind, .slice B0 (nth default x.hard k).scope.length m0, .slice B1 (nth default x.hard k).rows.length m1, .slice B2 (nth default x.hard k).args.length m2] 43)) (HBk.out.move (below_alloc1 _ _)) ((HE1.out.below HKk.out.below hb8).below (below_alloc1 _ _) (HE1.out.below HKk.out.below hb8).size) hb8 HS2.out (q1'.below (by decide) (below_alloc1 _ _)) (q2'.below (by decide) (below_alloc1 _ _)) (q3'.below (by decide) (below_alloc1 _ _)) Hr.out ((right_hard Hr.out).2 k hlt) (by rw [List.length_append]; omega))
          clear hst hst' hle q1' q2' q3'
          go_wp2_with fail
          refine hcall.out.mono ?_
          rintro e W2 ⟨rfl, hB2, hk2⟩
          have HB2 := Lib.hid hB2
          have HK2 := Lib.hid (HKk.out.trans ((kep_alloc wr _ (Nat.le_of_lt hwl.out)).trans hk2))
          clear hB2 hk2
          go_wp2_with fail
          refine (writeString_any _ _ ⟨endT.toArray⟩ _ HB2.out (by rw [size_mk, Hel.out, List.length_append, List.length_append]; omega)).mono ?_
          rintro e W4 ⟨rfl, hB4, hk4⟩
          have HB4 := Lib.hid hB4
          have HK4 := Lib.hid (HK2.out.trans hk4)
          clear hB4 hk4 f0 f1 f2 f3
          go_wp2
          go_roundw
          case rel => exact ⟨k + 1, by go_num, by omega, Lib.hid (by rw [Hst2.out]; simpa only [List.append_assoc] using HB4.out), HK4⟩
          case measure => simp [intOf]; omega
        · have HBy : Hid (Bld W1.heap.size (domsP x.doms ++ hardsP x.hard) wr) := by
            have e : x.hard.take k = x.hard := List.take_of_length_le (by omega)
            rw [e] at HBk; exact HBk
          clear HBk HBx HKo
          have HBx := Lib.hid HBy.out
          clear HBy
          obtain ⟨wo, rfl⟩ : ∃ wo : World, wo = wr := ⟨_, rfl⟩
          have HKo := Lib.hid HKk.out
          have g2 : wo.cell? ⟨w.heap.size, 2, none⟩ = some (.slice AS x.soft.length cS) := cell_at ((HKk.out.below.block _ Hgw.out).trans Hg.out) (i := 2) rfl
          clear HKk
          go_wp2
          clear g2
          go_loopw [42] (fun i wr => ∃ k : Nat, i = .int .i64 k ∧ k ≤ x.soft.length ∧ Hid (Bld W1.heap.size (domsP x.doms ++ hardsP x.hard ++ softsP (x.soft.take k)) wr) ∧ Hid (Kep W1.heap.size (W1.alloc (.cells #[.pointer none, .slice none 0 0] 61)) wr)) (fun i _ => x.soft.length - (intOf i).toNat)
          case atStart => exact ⟨0, rfl, by omega, Lib.hid (by simpa [softsP] using HBx.out), HKo⟩
          case round =>
            obtain ⟨k, rfl, hk, HBk, HKk⟩ := hrel
            by_cases hlt : k < x.soft.length
            · obtain ⟨b1, o1, cs, rfl, _, hK, hcell⟩ := (Sl.elems (Hst.out.sl (by decide) HS1.out HKk.out)) k (nth default x.soft k) (nth_get default x.soft k hlt)
              obtain ⟨us, ur, uc, rfl, q1, q2, q3⟩ := kSft_cells hK
              have f0 := hcell 0 _ rfl
              have f1 := hcell 1 _ rfl
              have f2 := hcell 2 _ rfl
              have f3 := hcell 3 _ rfl
              simp only [show kSft.sz = 4 from rfl, Nat.add_zero, ← Nat.add_assoc] at f0 f1 f2 f3
              clear hcell hK
              have q1' := q1
              have q2' := q2
              have q3' := q3
              obtain ⟨B0, m0, rfl, _, _, _⟩ := q1
              obtain ⟨B1, m1, rfl, _, _, _⟩ := q2
              obtain ⟨B2, m2, rfl, _, _, _⟩ := q3
              have hst := flat_step (fun c => softP c ++ endT) default x.soft k hlt
              have hle : (softsP (x.soft.take (k + 1))).length ≤ (softsP x.soft).length := flat_take_le _ x.soft (k + 1)
              have hst' : softsP (x.soft.take (k + 1)) = softsP (x.soft.take k) ++ (softP (nth default x.soft k) ++ endT) := hst
              have hb3 : (softsP (x.soft.take k)).length + (softP (nth default x.soft k)).length + 2 ≤ (softsP x.soft).length := by
                rw [hst', List.length_append, List.length_append, Hel.out] at hle; omega
              have Hst2 := Lib.hid hst'
              have hwl := Lib.hid HBk.out.lt
              have HS2 := Lib.hid ((Hst.out.kep HKk.out).below (below_alloc1 wr (.cells #[.slice B0 (nth default x.soft k).scope.length m0, .slice B1 (nth default x.soft k).rows.length m1, .slice B2 (nth default x.soft k).costs.length m2, .int .i64 (nth default x.soft k).dflt] 47)))
              have hcall := Lib.hid (softx_any W1.heap.size _ _ _ _ x (nth default x.soft k) _ (wr.alloc (.cells #[.slice B0 (nth default x.soft k).scope.length m0, .slice B1 (nth default x.soft k).rows.length m1, .slice B2 (nth default x.soft k).costs.length m2, .int .i64 (nth default x.soft k).dflt] 47)) (HBk.out.move (below_alloc1 _ _)) ((HE1.out.below HKk.out.below hb8).below (below_alloc1 _ _) (HE1.out.below HKk.out.below hb8).size) hb8 HS2.out (q1'.below (by decide) (below_alloc1 _ _)) (q2'.below (by decide) (below_alloc1 _ _)) (q3'.below (by decide) (below_alloc1 _ _)) Hr.out ((right_soft Hr.out).2 k hlt) (by simp only [List.length_append]; omega))
              clear hst hst' hle q1' q2' q3'
              go_wp2_with fail
              refine hcall.out.mono ?_
              rintro e W2 ⟨rfl, hB2, hk2⟩
              have HB2 := Lib.hid hB2
              have HK2 := Lib.hid (HKk.out.trans ((kep_alloc wr _ (Nat.le_of_lt hwl.out)).trans hk2))
              clear hB2 hk2
              go_wp2_with fail
              refine (writeString_any _ _ ⟨endT.toArray⟩ _ HB2.out (by rw [size_mk, Hel.out]; simp only [List.length_append]; omega)).mono ?_
              rintro e W4 ⟨rfl, hB4, hk4⟩
              have HB4 := Lib.hid hB4
              have HK4 := Lib.hid (HK2.out.trans hk4)
              clear hB4 hk4 f0 f1 f2 f3
              go_wp2
              go_roundw
              case rel => exact ⟨k + 1, by go_num, by omega, Lib.hid (by rw [Hst2.out]; simpa only [List.append_assoc] using HB4.out), HK4⟩
              case measure => simp [intOf]; omega
            · have HBy : Hid (Bld W1.heap.size (domsP x.doms ++ hardsP x.hard ++ softsP x.soft) wr) := by
                have e : x.soft.take k = x.soft := List.take_of_length_le (by omega)
                rw [e] at HBk; exact HBk
              clear HBk HBx HKo
              go_wp2_with (go_at_call 39; refine (string_any _ _ _ HBy.out).mono ?_; rintro e W5 ⟨rfl, hb5⟩; have Hb5 := Lib.hid hb5; clear hb5)
              go_ret
              refine ⟨ret_str (by rw [HP.out]), ?_⟩
              exact below_next HB.out (Hb2.out.trans ((HKk.out.below.trans Hb5.out).mono (by have := Hgw.out; simp; omega)))

/-- inst.Print. -/
theorem print_any (vD vH vS : Value) (x : Ins) (ok : Nat → Prop) (w : World) (hE : Env w) (hD : Sl kRow w ok vD x.doms) (hH : Sl kCon w ok vH x.hard) (hS : Sl kSft w ok vS x.soft) (hlen : (printP x).length ≤ 140737488355328) :
    Calls Tryz.prog 15 #[.agg #[vD, vH, vS]] w fun e w' => e = .returned (.string ⟨(printP x).toArray⟩) ∧ Below w.heap.size w w' := by
  cases hr : rightB x
  · exact print_wrong vD vH vS x ok w hD hH hS hr
  · exact print_right vD vH vS x ok w hE hD hH hS hr hlen
end Go.Proofs.YtoahaigfjfeopaaGreatDoor
