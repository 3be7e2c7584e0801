/- Texts joined: Ph Wam Re. -/
import Derived.Test.YtoahaigfjfeopaaGreatDoorGg
/- Blanks and comments alone: no token. -/
namespace Go.Proofs.YtoahaigfjfeopaaGreatDoor

/-- What a number says: a blank, a line's end, or a comment. -/
def blank1 (v : Int) : List UInt8 := if v % 4 = 0 then [32] else if v % 4 = 1 then [10] else if v % 4 = 2 then [9] else [35, 118, 97, 114, 32, 48, 59, 10]
def blankP (l : List Int) : List UInt8 := l.flatMap blank1
theorem scan_one (a : Nat) (c : UInt8) (r : List UInt8) (h : c.toNat = 32 ∨ c.toNat = 9 ∨ c.toNat = 10) : scanQ a (c :: r) = scanQ (a + 1) r := by
  have hl : leftP (c :: r) = 1 := by rw [leftP, if_pos h]
  rw [scanQ_left a (c :: r) (by simp) (by omega), hl]
  rfl
theorem scan_note (a : Nat) (r : List UInt8) : scanQ a ([35, 118, 97, 114, 32, 48, 59, 10] ++ r) = scanQ (a + 8) r := by
  have hl : leftP ([35, 118, 97, 114, 32, 48, 59, 10] ++ r) = 7 := by
    simp [leftP, runP, notEol]
  rw [scanQ_left a _ (by simp) (by omega), hl]
  exact scan_one (a + 7) 10 r (by decide)
theorem scan_blank1 (a : Nat) (v : Int) (r : List UInt8) : scanQ a (blank1 v ++ r) = scanQ (a + (blank1 v).length) r := by
  unfold blank1
  split
  · exact scan_one a 32 r (by decide)
  · split
    · exact scan_one a 10 r (by decide)
    · split
      · exact scan_one a 9 r (by decide)
      · exact scan_note a r
theorem scan_blank : ∀ (l : List Int) (a : Nat), scanQ a (blankP l) = .ok [⟨4, [], 0, a + (blankP l).length⟩]
  | [], a => by rw [show blankP [] = [] from rfl, scanQ_nil]; rfl
  | v :: l, a => by
    rw [show blankP (v :: l) = blank1 v ++ blankP l from rfl, scan_blank1, scan_blank l, List.length_append]; simp only [Except.ok.injEq, List.cons.injEq, Tok.mk.injEq, true_and, and_true]; omega
theorem blank1_len (v : Int) : (blank1 v).length ≤ 8 := by
  unfold blank1
  split
  · decide
  · split
    · decide
    · split <;> decide
theorem blankP_len : ∀ l : List Int, (blankP l).length ≤ 8 * l.length
  | [] => Nat.le_refl _
  | v :: l => by
    have := blankP_len l
    have := blank1_len v
    rw [show blankP (v :: l) = blank1 v ++ blankP l from rfl, List.length_append, List.length_cons]
    omega
theorem parse_blank (l : List Int) (h : l.length ≤ 60) : parseP (blankP l) = .ok ⟨[], [], []⟩ := by
  have hl := blankP_len l
  have ha : allP (blankP l) = .ok [⟨4, [], 0, 0 + (blankP l).length⟩] := by
    rw [allP, if_neg (by omega)]
    exact scan_blank l 0
  simp only [parseP, ha]
  rw [stmtsQ]
  rfl
theorem blankP_snoc (l : List Int) (v : Int) : blankP (l ++ [v]) = blankP l ++ blank1 v := by simp [blankP]
theorem take_next (l : List Int) (k : Nat) (h : k < l.length) : l.take (k + 1) = l.take k ++ [nth 0 l k] := by
  rw [List.take_add_one, nth_get 0 l k h]; rfl
end Go.Proofs.YtoahaigfjfeopaaGreatDoor

/- arboristlaw06.InstEmpty. -/
namespace Go.Proofs.YtoahaigfjfeopaaGreatDoor
open Go.RowKit
attribute [local irreducible] wpStill wpLex Calls

def EmpRel (xs : List Int) (g : Nat) (v s : Value) (wr : World) (w : World) : Prop :=
  ∃ k : Nat, ∃ sb : ByteArray, v = .int .i64 k ∧ k ≤ xs.length ∧ k ≤ 60 ∧ s = .string sb ∧ Hid (sb = ⟨(blankP (xs.take k)).toArray⟩) ∧ sb.size ≤ 8 * k ∧ wr = w ∧ g = 60 - k
theorem ba_app (a b : List UInt8) : (⟨a.toArray⟩ : ByteArray) ++ ⟨b.toArray⟩ = ⟨(a ++ b).toArray⟩ := by
  apply ByteArray.ext
  simp [ByteArray.data_append]
theorem blank_next (xs : List Int) (k : Nat) (h : k < xs.length) (sb : ByteArray) (hs : sb = ⟨(blankP (xs.take k)).toArray⟩) (t : List UInt8) (ht : blank1 (nth 0 xs k) = t) : sb ++ ⟨t.toArray⟩ = ⟨(blankP (xs.take (k + 1))).toArray⟩ := by
  rw [hs, ba_app, take_next xs k h, blankP_snoc, ht]
theorem right_empty : rightB ⟨[], [], []⟩ = true := by kernel_rfl
theorem print_empty : printP ⟨[], [], []⟩ = [] := by kernel_rfl
theorem zero_const (w : World) : (Instr.build 26 #[]).run Tryz.prog w = .ok (.agg #[.slice none 0 0, .slice none 0 0, .slice none 0 0]) w := by kernel_rfl
set_option maxRecDepth 100000 in
set_option maxHeartbeats 4000000 in
theorem empty_any (v : Value) (xs : List Int) (ok : Nat → Prop) (w : World) (hE : Env w) (h1 : Sl (Kd.int .u8) w ok v xs) (hb : ∀ k, k < xs.length → 0 ≤ nth 0 xs k ∧ nth 0 xs k ≤ 255) :
    Calls Tryz.prog 10 #[v] w fun e w' => e = .returned (.bool true) ∧ Below w.heap.size w w' := by
  have HS := Lib.hid (shown_any w hE)
  have H1 := Lib.hid h1
  have HE := Lib.hid hE
  have HB := Lib.hid hb
  obtain ⟨A, c, rfl, hc, hm, _⟩ := h1
  clear hE hb
  go_enter Tryz.func10, Tryz.ntmps10
  go_wp2_with (go_at_call 11; refine HS.out.mono ?_; rintro e w1 ⟨rfl, hb⟩; (have HB1 := Lib.hid hb); (have H2 := Lib.hid (H1.out.below (by decide) hb)); (have HE2 := Lib.hid (HE.out.below hb HE.out.size)); clear hb HS H1)
  go_loopg [5, 4] 60 (fun g v s wr => EmpRel xs g v s wr w1)
  case atStart => exact ⟨0, _, rfl, by omega, by omega, rfl, Lib.hid rfl, Nat.le_refl _, rfl, rfl⟩
  case round =>
    obtain ⟨k, sb, rfl, hk, hk6, rfl, hs, hsz, rfl, hg⟩ := hrel
    have HG := Lib.hid hg
    clear hg
    by_cases hlt : k < xs.length
    · by_cases hlt6 : k < 60
      · obtain ⟨b, o, rfl, hcell⟩ := H2.out.elems.num hlt
        have hn := HB.out k hlt
        have HNX := Lib.hid (blank_next xs k hlt sb hs.out)
        unfold blank1 at HNX
        generalize nth 0 xs k = n at *
        by_cases e0 : n % 4 = 0
        · have b0 : (n % 4 == 0) = true := by simp [e0]
          have HQ := Lib.hid (HNX.out _ (if_pos e0))
          clear e0
          go_wp2
          go_roundg (60 - (k + 1))
          case rel => exact ⟨k + 1, _, by go_num, by omega, by omega, rfl, HQ, by have : (ByteArray.mk #[32]).size = 1 := rfl; rw [ByteArray.size_append]; omega, rfl, rfl⟩
          case measure => have := HG.out; omega
        · have b0 : (n % 4 == 0) = false := by simp [e0]
          by_cases e1 : n % 4 = 1
          · have b1 : (n % 4 == 1) = true := by simp [e1]
            have HQ := Lib.hid (HNX.out _ ((if_neg e0).trans (if_pos e1)))
            clear e0 e1
            go_wp2
            go_roundg (60 - (k + 1))
            case rel => exact ⟨k + 1, _, by go_num, by omega, by omega, rfl, HQ, by have : (ByteArray.mk #[10]).size = 1 := rfl; rw [ByteArray.size_append]; omega, rfl, rfl⟩
            case measure => have := HG.out; omega
          · have b1 : (n % 4 == 1) = false := by simp [e1]
            by_cases e2 : n % 4 = 2
            · have b2 : (n % 4 == 2) = true := by simp [e2]
              have HQ := Lib.hid (HNX.out _ ((if_neg e0).trans ((if_neg e1).trans (if_pos e2))))
              clear e0 e1 e2
              go_wp2
              go_roundg (60 - (k + 1))
              case rel => exact ⟨k + 1, _, by go_num, by omega, by omega, rfl, HQ, by have : (ByteArray.mk #[9]).size = 1 := rfl; rw [ByteArray.size_append]; omega, rfl, rfl⟩
              case measure => have := HG.out; omega
            · have b2 : (n % 4 == 2) = false := by simp [e2]
              have b3 : (n % 4 == 3) = true := by
                simp; omega
              have HQ := Lib.hid (HNX.out _ ((if_neg e0).trans ((if_neg e1).trans (if_neg e2))))
              clear e0 e1 e2
              go_wp2
              go_roundg (60 - (k + 1))
              case rel => exact ⟨k + 1, _, by go_num, by omega, by omega, rfl, HQ, by have : (ByteArray.mk #[35, 118, 97, 114, 32, 48, 59, 10]).size = 8 := rfl; rw [ByteArray.size_append]; omega, rfl, rfl⟩
              case measure => have := HG.out; omega
      · have HK : Hid ((xs.take k).length ≤ 60) := Lib.hid (by rw [List.length_take]; omega)
        have hq := reads_ok _ _ wr HE2.out (by have := blankP_len (xs.take k); have := HK.out; omega) (parse_blank _ HK.out)
        rw [← hs.out] at hq
        have HPQ := Lib.hid hq
        clear hq hs
        go_wp2_with (go_at_call 18; refine HPQ.out.mono ?_; rintro e w2 ⟨⟨DA, Dc, HA, Hc, SA, Sc, rfl, hi, _⟩, hb⟩; (have HI := Lib.hid hi); (have HB2 := Lib.hid (below_next HB1.out hb)); clear hi hb HPQ)
        have hbe := Below.refl w2.heap.size w2 |>.alloc (Nat.le_refl _) (.cells #[.slice DA 0 Dc, .slice HA 0 Hc, .slice SA 0 Sc] 26)
        have HX := Lib.hid (heap_alloc_new w2 (.cells #[.slice DA 0 Dc, .slice HA 0 Hc, .slice SA 0 Sc] 26))
        have HI2 := Lib.hid (HI.out.below hbe)
        have HB3 := Lib.hid (below_next HB2.out hbe)
        clear HI HB2 hbe
        generalize w2.alloc (.cells #[.slice DA 0 Dc, .slice HA 0 Hc, .slice SA 0 Sc] 26) = W at *
        refine (same_any _ _ _ _ _ _ _ _ Any W HI2.out (InsAt.nil W Any)).mono ?_
        rintro e w3 ⟨rfl, hb⟩
        have HI3 := Lib.hid (HI2.out.below hb)
        have HB4 := Lib.hid (below_next HB3.out hb)
        have HX3 := Lib.hid (block_kept hb HX.out)
        have hr := right_any _ _ _ _ _ w3 HI3.out.1 HI3.out.2.1 HI3.out.2.2
        rw [right_empty] at hr
        have HR := Lib.hid hr
        have x0 := cell_at HX3.out (i := 0) rfl
        have x1 := cell_at HX3.out (i := 1) rfl
        have x2 := cell_at HX3.out (i := 2) rfl
        clear hb hr HB3 HI2 HX
        go_wp2_with (first
          | (go_at_call 14; refine HR.out.mono ?_; rintro e w5 ⟨rfl, hb⟩; (have HX5 := Lib.hid (block_kept hb HX3.out)); (have HI5 := Lib.hid (HI3.out.below hb)); (have HB5 := Lib.hid (below_next HB4.out hb)); (have x0 := cell_at HX5.out (i := 0) rfl); (have x1 := cell_at HX5.out (i := 1) rfl); (have x2 := cell_at HX5.out (i := 2) rfl); (have HPR := Lib.hid (print_any _ _ _ _ _ w5 (HE.out.below HB5.out HE.out.size) HI5.out.1 HI5.out.2.1 HI5.out.2.2 (by rw [print_empty]; decide))); clear hb HX3 HI3 HB4 HR)
          | (go_at_call 15; rw [print_empty] at HPR; refine HPR.out.mono ?_; rintro e w6 ⟨rfl, hb⟩; (have HB6 := Lib.hid (below_next HB5.out hb)); clear hb HPR))
        go_ret
        exact ⟨rfl, HB6.out⟩
    · have HK : Hid ((xs.take k).length ≤ 60) := Lib.hid (by rw [List.length_take]; omega)
      have hq := reads_ok _ _ wr HE2.out (by have := blankP_len (xs.take k); have := HK.out; omega) (parse_blank _ HK.out)
      rw [← hs.out] at hq
      have HPQ := Lib.hid hq
      clear hq hs
      go_wp2_with (go_at_call 18; refine HPQ.out.mono ?_; rintro e w2 ⟨⟨DA, Dc, HA, Hc, SA, Sc, rfl, hi, _⟩, hb⟩; (have HI := Lib.hid hi); (have HB2 := Lib.hid (below_next HB1.out hb)); clear hi hb HPQ)
      have hbe := Below.refl w2.heap.size w2 |>.alloc (Nat.le_refl _) (.cells #[.slice DA 0 Dc, .slice HA 0 Hc, .slice SA 0 Sc] 26)
      have HX := Lib.hid (heap_alloc_new w2 (.cells #[.slice DA 0 Dc, .slice HA 0 Hc, .slice SA 0 Sc] 26))
      have HI2 := Lib.hid (HI.out.below hbe)
      have HB3 := Lib.hid (below_next HB2.out hbe)
      clear HI HB2 hbe
      generalize w2.alloc (.cells #[.slice DA 0 Dc, .slice HA 0 Hc, .slice SA 0 Sc] 26) = W at *
      refine (same_any _ _ _ _ _ _ _ _ Any W HI2.out (InsAt.nil W Any)).mono ?_
      rintro e w3 ⟨rfl, hb⟩
      have HI3 := Lib.hid (HI2.out.below hb)
      have HB4 := Lib.hid (below_next HB3.out hb)
      have HX3 := Lib.hid (block_kept hb HX.out)
      have hr := right_any _ _ _ _ _ w3 HI3.out.1 HI3.out.2.1 HI3.out.2.2
      rw [right_empty] at hr
      have HR := Lib.hid hr
      have x0 := cell_at HX3.out (i := 0) rfl
      have x1 := cell_at HX3.out (i := 1) rfl
      have x2 := cell_at HX3.out (i := 2) rfl
      clear hb hr HB3 HI2 HX
      go_wp2_with (first
        | (go_at_call 14; refine HR.out.mono ?_; rintro e w5 ⟨rfl, hb⟩; (have HX5 := Lib.hid (block_kept hb HX3.out)); (have HI5 := Lib.hid (HI3.out.below hb)); (have HB5 := Lib.hid (below_next HB4.out hb)); (have x0 := cell_at HX5.out (i := 0) rfl); (have x1 := cell_at HX5.out (i := 1) rfl); (have x2 := cell_at HX5.out (i := 2) rfl); (have HPR := Lib.hid (print_any _ _ _ _ _ w5 (HE.out.below HB5.out HE.out.size) HI5.out.1 HI5.out.2.1 HI5.out.2.2 (by rw [print_empty]; decide))); clear hb HX3 HI3 HB4 HR)
        | (go_at_call 15; rw [print_empty] at HPR; refine HPR.out.mono ?_; rintro e w6 ⟨rfl, hb⟩; (have HB6 := Lib.hid (below_next HB5.out hb)); clear hb HPR))
      go_ret
      exact ⟨rfl, HB6.out⟩
end Go.Proofs.YtoahaigfjfeopaaGreatDoor

/- THE CARD OF arboristlaw06.InstEmpty: its contract, its row, its card. -/
namespace Go.Proofs.YtoahaigfjfeopaaGreatDoor.instEmpty
open Go.ChangeShapes Go.WideShapes Go.ChangeAt Go.RowKit

set_option maxRecDepth 100000 in
theorem contract (H : Type) (enc : TypeId × Value → H) (W : World) (base : Nat) (args : Array Value) (ds gs : List (DataW H)) (before : List MemPlace)
    (hval : ∀ (j : Nat) t v, Tryz.f10.params[j]? = some t → args[j]? = some v → Value.okWide Tryz.prog W .any base t v)
    (hW : DataW.Whole enc Tryz.prog Tryz.f10.params.toList Rows.instEmptySpec.vars false W args.toList ds gs before)
    (hsz : (DataW.weightsEach Tryz.prog (Tryz.f10.params.toList ++ []) (ds ++ gs)).all (· ≤ reachBytes) = true) (hL : laidMetH Tryz.prog Rows.instEmptyRow.laid W) :
    Calls Tryz.prog 10 args W fun e W' => ∃ v, e = .returned v ∧ Rows.instEmptySpec.post enc Tryz.prog Tryz.f10 false true false false W args v W' := by
  have hW' := hW
  obtain ⟨p, q, hA0, hV, rfl, hfz, hnd⟩ := hW
  have hA : DataW.TrodAll enc Tryz.prog W 0 (fun _ => true) true Tryz.f10.params.toList args.toList ds p := hA0
  rw [Tryz.params10] at hA hval hsz
  obtain ⟨v0, vs0, d0, ds0, p0, q0, hargs, rfl, rfl, h0, r0⟩ := trodAll_cons hA
  obtain ⟨rfl, rfl, rfl⟩ := trodAll_nil r0
  obtain rfl : args = #[v0] := by cases args; simp_all
  obtain ⟨rfl, rfl⟩ := trodVars_none hV
  simp only [List.append_nil] at hW' hsz
  obtain ⟨xs, hs, hb⟩ := open_bytes (hval 0 39 v0 rfl rfl) h0 hsz
  refine (empty_any v0 xs _ W (env_of_laid hL) hs hb).mono fun e W' ⟨he, hg⟩ => ?_
  subst he
  exact ⟨_, rfl, post_true1 Tryz.params10 (by kernel_rfl) rfl rfl (by kernel_rfl) (of_decide_eq_true (by kernel_rfl)) h0 hW' hg⟩

theorem reads (os : Os) {H : Type} (enc : TypeId × Value → H) : ∃ places, DataW.whole enc Tryz.prog ((World.doorLaid Tryz.prog 200 os).forCall (fun _ _ => 0) ⟨#[], #[.slice none 0 0], []⟩).memory Tryz.f10.params.toList Rows.instEmptySpec.vars false #[Value.slice none 0 0].toList 8 = some ([.nil], [], places) :=
  ⟨[], by kernel_rfl⟩

set_option maxRecDepth 100000 in
theorem lifted (os : Os) (started : os.Started) (H : Type) (enc : TypeId × Value → H) (F : Stop.Interp) :
    ReturnsInHanded {} Tryz.checked os 10 .any ((OpenSpec.ofChange Rows.instEmptySpec).preRow enc Tryz.prog Tryz.f10 Rows.instEmptyRow.domain false Rows.instEmptyRow.laid) (((OpenSpec.ofChange Rows.instEmptySpec).at F).post enc Tryz.prog Tryz.f10 false true false false) := by
  obtain ⟨places, hx⟩ := reads os enc
  refine returnsInHanded_of_row (C := Tryz.checked) (s := OpenSpec.ofChange Rows.instEmptySpec) own_knob started (by kernel_rfl) Tryz.func10
    (witness_row_atRef (enc := enc) (C := Tryz.checked) false (World.doorLaid Tryz.prog 200 os) #[.slice none 0 0] rfl (by kernel_rfl) (by kernel_rfl) (by kernel_rfl)
      (OpenSpec.preRow_of_cond 8 hx (by kernel_rfl) (fun k hk => by cases hk) (by kernel_rfl) (laid_met os _))) ?_
  intro W base args ds gs before hval hW _ _ hsz hL _ _
  exact contract H enc W base args ds gs before hval hW hsz hL

theorem said : Rows.InstEmptySaid :=
  OpenClaim.holds_of_cond 10 Tryz.f10 rfl rfl rfl rfl rfl rfl rfl ⟨rfl, rfl, rfl, rfl, rfl⟩ rfl rfl rfl rfl rfl (by kernel_rfl) Tryz.func10 (by kernel_rfl)
    (of_decide_eq_true (by kernel_rfl)) (by unfold Func.isWrapper; first | (rw [if_pos (by decide +kernel)]; kernel_rfl) | (rw [if_neg (by decide +kernel)]; exact ⟨rfl, rfl⟩))
    (fun os started H enc _ F => by rw [OpenClaim.pre_eq_preRow]; exact lifted os started H enc F)

theorem plain (f : FuncId) (fn : Func) (hf : Tryz.pinned.checked.prog.funcNamed "arborist/arboristlaw06.InstEmpty" = some f) (hfn : Tryz.pinned.checked.prog.funcs[f]? = some fn) :
    true = Tryz.pinned.checked.prog.looks [] ∧ ∀ (j : Nat) t, fn.params[j]? = some t → Tryz.pinned.checked.prog.wantsStandIn t = false := by
  obtain rfl : f = 10 := Option.some.inj ((show Tryz.prog.funcNamed "arborist/arboristlaw06.InstEmpty" = some 10 by kernel_rfl).symm.trans hf) |>.symm
  obtain rfl : fn = Tryz.f10 := (Option.some.inj (Tryz.func10.symm.trans hfn)).symm
  refine ⟨by kernel_rfl, fun j t ht => ?_⟩
  rw [Tryz.params10] at ht
  obtain rfl : t = 39 := by simpa using Array.mem_of_getElem? ht
  exact (show Tryz.prog.wantsStandIn 39 = false by kernel_rfl)

theorem card : Rows.InstEmptyCardSaid :=
  Claim7.holds_tied_plain_at .later [] _ _ _ _ said (fun _ h => by cases h) (by kernel_rfl) (fun _ h => by cases h) instEmpty_row_tie rfl ⟨rfl, rfl⟩ (by kernel_rfl) rfl plain (by kernel_rfl)
end Go.Proofs.YtoahaigfjfeopaaGreatDoor.instEmpty
