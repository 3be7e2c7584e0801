/- Texts joined: Waq Rr. -/
import Derived.Test.YtoahaigfjfeopaaGreatDoorGh
import Derived.Test.YtoahaigfjfeopaaGreatDoorGk
import Derived.Test.YtoahaigfjfeopaaGreatDoorGg
/- arboristlaw06.InstReads. -/
namespace Go.Proofs.YtoahaigfjfeopaaGreatDoor
open Go.RowKit
attribute [local irreducible] wpStill wpLex Calls

theorem ba_take (s : ByteArray) (k : Nat) : s.extract 0 k = ⟨(s.data.toList.take k).toArray⟩ := by
  rw [Lib.extract_eq]
  simp
theorem ba_cut (s : ByteArray) (m : Nat) : s.extract 0 (min (s.size : Int) (m : Int)).toNat = ⟨(s.data.toList.take m).toArray⟩ := by
  rw [ba_take]
  congr 2
  have h : s.data.toList.length = s.size := by rw [Array.length_toList]; rfl
  rcases Nat.le_total s.size m with h1 | h1
  · rw [List.take_of_length_le (by omega), List.take_of_length_le (by omega)]
  · congr 1; omega
set_option maxRecDepth 100000 in
set_option maxHeartbeats 4000000 in
theorem reads_law (s : ByteArray) (w : World) (hE : Env w) :
    Calls Tryz.prog 6 #[.string s] w fun e w' => e = .returned (.bool true) ∧ Below w.heap.size w w' := by
  have HS := Lib.hid (shown_any w hE)
  have HE := Lib.hid hE
  have hm : (min (s.size : Int) 3000).toNat ≤ s.size := by omega
  have hm0 : 0 ≤ min (s.size : Int) 3000 := by omega
  clear hE
  go_enter Tryz.func6, Tryz.ntmps6
  go_wp2_with (go_at_call 11; refine HS.out.mono ?_; rintro e w1 ⟨rfl, hb⟩; (have HB1 := Lib.hid hb); (have HE2 := Lib.hid (HE.out.below hb HE.out.size)); clear hb HS)
  have hcut := ba_cut s 3000
  generalize s.extract 0 (min (s.size : Int) 3000).toNat = t at *
  obtain ⟨l, hl, ht⟩ : ∃ l : List UInt8, l.length ≤ 3000 ∧ t = ⟨l.toArray⟩ := ⟨_, by rw [List.length_take]; omega, hcut⟩
  clear hcut hm hm0
  have hts : t.size = l.length := by rw [ht]; exact size_mk _
  have HT := Lib.hid ht
  clear ht
  rcases hq : parseP l with ⟨p, x⟩ | y
  · obtain ⟨hx, hp0, hp1⟩ := parse_wrong hq
    have hr := reads_err l p x w1 HE2.out (by omega) hq
    rw [← HT.out] at hr
    have HR := Lib.hid hr
    have hb0 : (x != 0) = true := by simpa using hx
    have hp2 : p ≤ (t.size : Int) := by omega
    clear hr hq hx hp1 hts hl
    go_wp2_with (first
      | (go_at_call 18; refine HR.out.mono ?_; rintro e w2 ⟨rfl, hb⟩; (have HB2 := Lib.hid ((below_next HB1.out hb).alloc (below_next HB1.out hb).size (.cells #[.slice none 0 0, .slice none 0 0, .slice none 0 0] 26))); clear hb HR HB1)
      | (go_at_call 17; refine (same_any _ _ _ _ _ _ _ _ Any _ (InsAt.nil _ Any) (InsAt.nil _ Any)).mono ?_; rintro e w3 ⟨rfl, hb⟩; (have HB3 := Lib.hid (below_next HB2.out hb)); clear hb HB2))
    go_ret
    exact ⟨rfl, HB3.out⟩
  · obtain ⟨hr1, hlen, hback⟩ := parse_back (by omega) hq
    have hr := reads_ok l y w1 HE2.out (by omega) hq
    rw [← HT.out] at hr
    have HR := Lib.hid hr
    have HRI := Lib.hid hr1
    have HBK := Lib.hid hback
    clear hr hq hts hl hr1 hback HE2
    go_wp2_with (go_at_call 18; refine HR.out.mono ?_; rintro e w2 ⟨⟨DA, Dc, HA, Hc, SA, Sc, rfl, hi, _⟩, hb⟩; (have HI := Lib.hid hi); (have HB2 := Lib.hid (below_next HB1.out hb)); clear hi hb HR)
    have hbe := Below.refl w2.heap.size w2 |>.alloc (Nat.le_refl _) (.cells #[.slice DA y.doms.length Dc, .slice HA y.hard.length Hc, .slice SA y.soft.length Sc] 26)
    have HX := Lib.hid (heap_alloc_new w2 (.cells #[.slice DA y.doms.length Dc, .slice HA y.hard.length Hc, .slice SA y.soft.length Sc] 26))
    have HI2 := Lib.hid (HI.out.below hbe)
    have HB3 := Lib.hid (below_next HB2.out hbe)
    clear HI HB2 hbe
    generalize w2.alloc (.cells #[.slice DA y.doms.length Dc, .slice HA y.hard.length Hc, .slice SA y.soft.length Sc] 26) = W at *
    refine (print_any _ _ _ _ _ W (HE.out.below HB3.out HE.out.size) HI2.out.1 HI2.out.2.1 HI2.out.2.2 (by omega)).mono ?_
    rintro e w3 ⟨rfl, hb⟩
    have HI3 := Lib.hid (HI2.out.below hb)
    have HB4 := Lib.hid (below_next HB3.out hb)
    have HX3 := Lib.hid (block_kept hb HX.out)
    have HR := Lib.hid (reads_ok (printP y) y w3 (HE.out.below (below_next HB3.out hb) HE.out.size) (by omega) HBK.out)
    clear hb HB3 HI2 HX
    go_wp2_with (first
      | (go_at_call 18; refine HR.out.mono ?_; rintro e w4 ⟨⟨DA2, Dc2, HA2, Hc2, SA2, Sc2, rfl, hj, _⟩, hb⟩; (have hbe := below_alloc1 w4 (.cells #[.slice DA2 y.doms.length Dc2, .slice HA2 y.hard.length Hc2, .slice SA2 y.soft.length Sc2] 26)); (have HX5 := Lib.hid (block_kept hbe (block_kept hb HX3.out))); (have HY5 := Lib.hid (heap_alloc_new w4 (.cells #[.slice DA2 y.doms.length Dc2, .slice HA2 y.hard.length Hc2, .slice SA2 y.soft.length Sc2] 26))); (have HI5 := Lib.hid ((HI3.out.below hb).below hbe)); (have HJ5 := Lib.hid (hj.below hbe)); (have HB5 := Lib.hid (below_next (below_next HB4.out hb) hbe)); (have hrc := right_any _ _ _ _ _ _ HI5.out.1 HI5.out.2.1 HI5.out.2.2); rw [HRI.out] at hrc; (have HRC := Lib.hid hrc); (have x0 := cell_at HX5.out (i := 0) rfl); (have x1 := cell_at HX5.out (i := 1) rfl); (have x2 := cell_at HX5.out (i := 2) rfl); clear hj hb hbe hrc HR HI3 HX3 HB4)
      | (go_at_call 14; refine HRC.out.mono ?_; rintro e w5 ⟨rfl, hb⟩; (have HX6 := Lib.hid (block_kept hb HX5.out)); (have HY6 := Lib.hid (block_kept hb HY5.out)); (have HI6 := Lib.hid (HI5.out.below hb)); (have HJ6 := Lib.hid (HJ5.out.below hb)); (have HB6 := Lib.hid (below_next HB5.out hb)); (have x0 := cell_at HX6.out (i := 0) rfl); (have x1 := cell_at HX6.out (i := 1) rfl); (have x2 := cell_at HX6.out (i := 2) rfl); (have y0 := cell_at HY6.out (i := 0) rfl); (have y1 := cell_at HY6.out (i := 1) rfl); (have y2 := cell_at HY6.out (i := 2) rfl); clear hb HX5 HY5 HI5 HJ5 HB5 HRC)
      | (go_at_call 17; refine (same_any _ _ _ _ _ _ _ _ Any _ HI6.out HJ6.out).mono ?_; rintro e w6 ⟨rfl, hb⟩; (have HB7 := Lib.hid (below_next HB6.out hb)); clear hb HB6))
    go_ret
    exact ⟨ret_bool (by simp), HB7.out⟩
end Go.Proofs.YtoahaigfjfeopaaGreatDoor

/- THE CARD OF arboristlaw06.InstReads: its contract, its row, its card. -/
namespace Go.Proofs.YtoahaigfjfeopaaGreatDoor.instReads
open Go.ChangeShapes Go.WideShapes Go.ChangeAt Go.RowKit

set_option maxRecDepth 100000 in
theorem contract (H : Type) (enc : TypeId × Value → H) (W : World) (base : Nat) (args : Array Value) (ds gs : List (DataW H)) (before : List MemPlace)
    (hval : ∀ (j : Nat) t v, Tryz.f6.params[j]? = some t → args[j]? = some v → Value.okWide Tryz.prog W .any base t v)
    (hW : DataW.Whole enc Tryz.prog Tryz.f6.params.toList Rows.instReadsSpec.vars false W args.toList ds gs before)
    (hsz : (DataW.weightsEach Tryz.prog (Tryz.f6.params.toList ++ []) (ds ++ gs)).all (· ≤ reachBytes) = true) (hL : laidMetH Tryz.prog Rows.instReadsRow.laid W) :
    Calls Tryz.prog 6 args W fun e W' => ∃ v, e = .returned v ∧ Rows.instReadsSpec.post enc Tryz.prog Tryz.f6 false true false false W args v W' := by
  have hW' := hW
  obtain ⟨p, q, hA0, hV, rfl, hfz, hnd⟩ := hW
  have hA : DataW.TrodAll enc Tryz.prog W 0 (fun _ => true) true Tryz.f6.params.toList args.toList ds p := hA0
  rw [Tryz.params6] at hA hval hsz
  obtain ⟨v0, vs0, d0, ds0, p0, q0, hargs, rfl, rfl, h0, r0⟩ := trodAll_cons hA
  obtain ⟨rfl, rfl, rfl⟩ := trodAll_nil r0
  obtain rfl : args = #[v0] := by cases args; simp_all
  obtain ⟨rfl, rfl⟩ := trodVars_none hV
  simp only [List.append_nil] at hW' hsz
  have h0k := h0
  obtain ⟨n, rfl, rfl, rfl, _⟩ := Go.ChangeMaps.open_string Tryz.underlying9 (hval 0 9 v0 rfl rfl) h0
  refine (reads_law n W (env_of_laid hL)).mono fun e W' ⟨he, hg⟩ => ?_
  subst he
  exact ⟨_, rfl, post_true1 Tryz.params6 (by kernel_rfl) rfl rfl (by kernel_rfl) (of_decide_eq_true (by kernel_rfl)) h0k hW' hg⟩

theorem reads (os : Os) {H : Type} (enc : TypeId × Value → H) : ∃ places, DataW.whole enc Tryz.prog ((World.doorLaid Tryz.prog 200 os).forCall (fun _ _ => 0) ⟨#[], #[.string ⟨#[]⟩], []⟩).memory Tryz.f6.params.toList Rows.instReadsSpec.vars false #[Value.string ⟨#[]⟩].toList 8 = some ([.lit (.string [])], [], places) :=
  ⟨[], by kernel_rfl⟩

set_option maxRecDepth 100000 in
theorem lifted (os : Os) (started : os.Started) (H : Type) (enc : TypeId × Value → H) (F : Stop.Interp) :
    ReturnsInHanded {} Tryz.checked os 6 .any ((OpenSpec.ofChange Rows.instReadsSpec).preRow enc Tryz.prog Tryz.f6 Rows.instReadsRow.domain false Rows.instReadsRow.laid) (((OpenSpec.ofChange Rows.instReadsSpec).at F).post enc Tryz.prog Tryz.f6 false true false false) := by
  obtain ⟨places, hx⟩ := reads os enc
  refine returnsInHanded_of_row (C := Tryz.checked) (s := OpenSpec.ofChange Rows.instReadsSpec) own_knob started (by kernel_rfl) Tryz.func6
    (witness_row_atRef (enc := enc) (C := Tryz.checked) false (World.doorLaid Tryz.prog 200 os) #[.string ⟨#[]⟩] rfl (by kernel_rfl) (by kernel_rfl) (by kernel_rfl)
      (OpenSpec.preRow_of_cond 8 hx (by kernel_rfl) (fun k hk => by cases hk) (by kernel_rfl) (laid_met os _))) ?_
  intro W base args ds gs before hval hW _ _ hsz hL _ _
  exact contract H enc W base args ds gs before hval hW hsz hL

theorem said : Rows.InstReadsSaid :=
  OpenClaim.holds_of_cond 6 Tryz.f6 rfl rfl rfl rfl rfl rfl rfl ⟨rfl, rfl, rfl, rfl, rfl⟩ rfl rfl rfl rfl rfl (by kernel_rfl) Tryz.func6 (by kernel_rfl)
    (of_decide_eq_true (by kernel_rfl)) (by unfold Func.isWrapper; first | (rw [if_pos (by decide +kernel)]; kernel_rfl) | (rw [if_neg (by decide +kernel)]; exact ⟨rfl, rfl⟩))
    (fun os started H enc _ F => by rw [OpenClaim.pre_eq_preRow]; exact lifted os started H enc F)

theorem plain (f : FuncId) (fn : Func) (hf : Tryz.pinned.checked.prog.funcNamed "arborist/arboristlaw06.InstReads" = some f) (hfn : Tryz.pinned.checked.prog.funcs[f]? = some fn) :
    true = Tryz.pinned.checked.prog.looks [] ∧ ∀ (j : Nat) t, fn.params[j]? = some t → Tryz.pinned.checked.prog.wantsStandIn t = false := by
  obtain rfl : f = 6 := Option.some.inj ((show Tryz.prog.funcNamed "arborist/arboristlaw06.InstReads" = some 6 by kernel_rfl).symm.trans hf) |>.symm
  obtain rfl : fn = Tryz.f6 := (Option.some.inj (Tryz.func6.symm.trans hfn)).symm
  refine ⟨by kernel_rfl, fun j t ht => ?_⟩
  rw [Tryz.params6] at ht
  obtain rfl : t = 9 := by simpa using Array.mem_of_getElem? ht
  exact (show Tryz.prog.wantsStandIn 9 = false by kernel_rfl)

theorem card : Rows.InstReadsCardSaid :=
  Claim7.holds_tied_plain_at .later [] _ _ _ _ said (fun _ h => by cases h) (by kernel_rfl) (fun _ h => by cases h) instReads_row_tie rfl ⟨rfl, rfl⟩ (by kernel_rfl) rfl plain (by kernel_rfl)
end Go.Proofs.YtoahaigfjfeopaaGreatDoor.instReads
