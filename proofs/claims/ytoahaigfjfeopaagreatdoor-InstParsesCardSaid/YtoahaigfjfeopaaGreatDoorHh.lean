/- Texts joined: Wbo Pqc Wbp Pqd Wbq Pqe Wbr. -/
import Derived.Test.YtoahaigfjfeopaaGreatDoorHg
import Derived.Test.YtoahaigfjfeopaaGreatDoorHd
import Derived.Test.YtoahaigfjfeopaaGreatDoorHb
import Derived.Test.YtoahaigfjfeopaaGreatDoorHc
import Derived.Deep.CutBlock
/- arboristref06.parser: row. -/
namespace Go.Proofs.YtoahaigfjfeopaaGreatDoor
open Go.RowKit
attribute [local irreducible] wpStill wpLex wpLexO wpPlan Calls

def RwRel (g base : Nat) (w : World) (toks : List Tok) (doms : List (List Int)) (scope : List Int) (s0 : RS) (dv hv sv : Value) (gm : Nat) (v i : Value) (wr : World) : Prop :=
  ∃ (t : List Int) (s : RS), i = .int .i64 t.length ∧ Hid (OwnI base v t wr) ∧ Hid (RB g wr toks s dv hv sv) ∧ Hid (Chg (fun k => k = g) w wr) ∧ Hid (RowI toks doms scope s0 t s) ∧ gm = scope.length - t.length
def RwR (g base : Nat) (w w' : World) (toks : List Tok) (doms : List (List Int)) (scope : List Int) (ahead : List (List Int)) (s0 : RS) (dv hv sv : Value) (e : Ending) : Prop :=
  ∃ (t : List Int) (s : RS) (v : Value), e = .returned v ∧ OwnI base v t w' ∧ RB g w' toks s dv hv sv ∧ Chg (fun k => k = g) w w' ∧ RowP toks doms scope ahead s0 t s
theorem Elems.num_ok {k : IntKind} {w : World} {ok : Nat → Prop} {A : Option Addr} {xs : List Int} (h : Elems (Kd.int k) w ok A xs) {j : Nat} (hj : j < xs.length) :
    ∃ b o, A = some ⟨b, o, none⟩ ∧ ok b ∧ w.cell? ⟨b, o + j, none⟩ = some (.int k (nth 0 xs j)) := by
  obtain ⟨b, o, rfl, hc⟩ := h.num hj
  obtain ⟨b', o', cs, he, hok, _⟩ := h j _ (nth_get 0 xs j hj)
  injection he with he
  injection he with h1 h2
  subst h1
  exact ⟨b, o, rfl, hok, hc⟩
theorem Elems.row_ok {α : Type} {d : Kd α} {hs : 0 < d.sz} {w : World} {ok : Nat → Prop} {A : Option Addr} {xs : List (List α)} (h : Elems (Kd.slice d hs) w ok A xs) {j : Nat} (hj : j < xs.length) :
    ∃ b o v, A = some ⟨b, o, none⟩ ∧ ok b ∧ w.cell? ⟨b, o + j, none⟩ = some v ∧ Sl d w ok v (nth [] xs j) := by
  obtain ⟨b, o, v, rfl, hc, hk⟩ := h.row hj
  obtain ⟨b', o', cs, he, hok, _⟩ := h j _ (nth_get [] xs j hj)
  injection he with he
  injection he with h1 h2
  subst h1
  exact ⟨b, o, v, rfl, hok, hc, hk⟩
set_option maxRecDepth 100000 in
set_option maxHeartbeats 8000000 in
theorem row_r (g : Nat) (w : World) (toks : List Tok) (s : RS) (doms : List (List Int)) (DA : Option Addr) (Dc : Nat) (hv sv : Value) (okD okS okA : Nat → Prop) (scope : List Int) (SA : Option Addr) (Sc : Nat) (ahead : List (List Int)) (va : Value) (hT : TokR toks)
    (h : RB g w toks s (.slice DA doms.length Dc) hv sv) (hD : Sl kRow w okD (.slice DA doms.length Dc) doms) (hDg : ∀ k, okD k → ¬ k = g) (hS : Sl (Kd.int .i64) w okS (.slice SA scope.length Sc) scope) (hSg : ∀ k, okS k → ¬ k = g)
    (hs7 : scope.length ≤ 7) (hsr : s.e = 0 → ∀ v ∈ scope, 0 ≤ v ∧ v < doms.length) (hA : Sl kRow w okA va ahead) (hAg : ∀ k, okA k → ¬ k = g) :
    Calls Tryz.prog 109 #[.pointer (some ⟨g, 0, none⟩), .slice SA scope.length Sc, va] w fun e w' => RwR g w.heap.size w w' toks doms scope ahead s (.slice DA doms.length Dc) hv sv e := by
  have how := World.ownsRow_lit (base := w.heap.size) (e := 3) (size := 1) w #[] 0 (Nat.le_refl _) (by decide) rfl
  have HO0 : Hid (OwnI w.heap.size (.slice (some ⟨w.heap.size, 0, none⟩) 0 0) [] (w.alloc (.cells #[] 3))) := Lib.hid how
  have HB := Lib.hid (below_alloc1 w (.cells #[] 3))
  have hgw := h.lt
  have HT := Lib.hid hT
  have H0 := Lib.hid h
  have hi := h.idx
  have p1 := h.cell1
  have HD := Lib.hid hD
  have HS := Lib.hid hS
  have HA := Lib.hid hA
  have HSR := Lib.hid hsr
  obtain ⟨i0, hi0, hz0, hz1, hz2⟩ := info_parts (show (Tryz.prog.info? 3).map (fun i => (i.zero, i.size, i.bytes)) = some (some (.int .i64 0), 1, 8) by kernel_rfl)
  clear how h hT hsr hD
  obtain ⟨_, _, he, hSc, hSm, _⟩ := hS
  injection he with he1 he2 he3
  subst he1 he3
  obtain ⟨AA, Ac, rfl, hAc, hAm, _⟩ := hA
  go_enter Tryz.func109, Tryz.ntmps109
  go_wp2_with fail
  clear p1
  go_loopg [8, 9] scope.length (fun gm v i wr => RwRel g w.heap.size w toks doms scope s (.slice DA doms.length Dc) hv sv gm v i wr)
  case atStart => exact ⟨[], s, rfl, HO0, Lib.hid (H0.out.below HB.out), Lib.hid (chg_of_below HB.out _), Lib.hid row_first, rfl⟩
  case round =>
    clear HO0 HB H0
    obtain ⟨t, q, rfl, HO, HP, HC, HI, hg⟩ := hrel
    have HG := Lib.hid hg
    have p6 := HP.out.cell6
    have hqi := HP.out.idx
    have hgw2 := HP.out.lt
    have hle := HI.out.len
    have hbs := HC.out.size
    clear hg
    by_cases hlt : t.length < scope.length
    · have hd0 : decide ((t.length : Int) < scope.length) = true := decide_eq_true (by omega)
      by_cases he : q.e = 0
      · have hd1 : (q.e == 0) = true := by simp [he]
        have HE := Lib.hid he
        have p1 := HP.out.cell1
        have HST := Lib.hid (row_step HT.out hqi HI.out he hlt)
        have HNUM := Lib.hid (number_r g wr toks q _ hv sv 1000000 (by decide) (by decide) HP.out)
        have hs0 : s.e = 0 := by
          by_cases h0 : s.e = 0
          · exact h0
          · exact absurd he (by rw [(HI.out.kept.2 h0).2]; exact h0)
        obtain ⟨hv0, hv1⟩ := HSR.out hs0 _ (nth_mem 0 hlt)
        clear he hs0
        by_cases hq1 : (numberF toks 1000000 q).e = 0
        · have hd2 : ((numberF toks 1000000 q).e == 0) = true := by simp [hq1]
          obtain ⟨b1, o1, rfl, hb1, c1⟩ := HS.out.elems.num_ok hlt
          obtain ⟨b2, o2, vr, rfl, hb2, c2, hr⟩ := HD.out.elems.row_ok (j := (nth 0 scope t.length).toNat) (by omega)
          have hn1 := hSg _ hb1
          have hn2 := hDg _ hb2
          have HRW := Lib.hid hr
          obtain ⟨AR, cR, rfl, _, _, _⟩ := hr
          have HV : Hid (valueF toks (nth [] doms (nth 0 scope t.length).toNat) q = if ¬ (tkF toks q).n ∈ nth [] doms (nth 0 scope t.length).toNat then failF toks q.i 6 (numberF toks 1000000 q) else numberF toks 1000000 q) := Lib.hid (by
            unfold valueF
            by_cases hm : (tkF toks q).n ∈ nth [] doms (nth 0 scope t.length).toNat
            · rw [if_neg (fun hh => hh.2 hm), if_neg (fun hh => hh hm)]
            · rw [if_pos ⟨hq1, hm⟩, if_pos hm])
          rw [HV.out] at HST
          have hvi : nth 0 scope t.length < (doms.length : Int) := hv1
          clear hq1 HV hb1 hb2 hv1
          generalize numberF toks 1000000 q = q1 at *
          generalize (tkF toks q).n = tn at *
          generalize nth 0 scope t.length = vi at *
          generalize nth [] doms vi.toNat = dom at *
          by_cases hm : tn ∈ dom
          · rw [if_neg (fun hh => hh hm)] at HST
            have HNX := HST
            have HMD : Hid (decide (tn ∈ dom) = true) := Lib.hid (decide_eq_true hm)
            clear hm HST
            go_wp2_with (go_at_call 108; refine HNUM.out.mono ?_; rintro e W1 ⟨rfl, hp, hc⟩; (have p6 := hp.cell6); (have HP4 := Lib.hid hp); (have HG4 : Hid (Chg (fun k => k = g) w W1) := Lib.hid (HC.out.trans hc (fun _ _ h => h))); (have HO4 := Lib.hid (HO.out.chg hc (fun k hk e => by have := (HO.out.lt k hk).1; omega))); clear hp hc)
            refine wp_region_still_tail 12 (by kernel_rfl) (by kernel_rfl) ?_
            change wpStill _ _ (World.drew W1) (fun a' => wpList _ _ _ _ a' (World.drew W1)) _ _
            have hdr := Below.drew (Below.refl W1.heap.size W1)
            have HP5 := Lib.hid (HP4.out.below hdr)
            have HG5 := Lib.hid (HG4.out.thenBelow hdr)
            have HO5 := Lib.hid (HO4.out.chg (chg_of_below hdr (fun _ => False)) (fun _ _ h => h))
            have p2 := HP5.out.cellD
            have c1 := HG5.out.cell (p := ⟨b1, o1 + t.length, none⟩) hn1 c1
            have c2 := HG5.out.cell (p := ⟨b2, o2 + vi.toNat, none⟩) hn2 c2
            have HIN := Lib.hid (refin_any _ dom tn okD _ (HRW.out.chg (by decide) HG5.out (fun k hk => hDg k hk)))
            rw [HMD.out] at HIN
            clear hdr HP4 HG4 HO4 HRW HMD p6 p1
            generalize World.drew W1 = W2 at *
            simp only [List.take_succ_cons, List.take_zero, List.drop_succ_cons, List.drop_zero]
            repeat (first | (refine still_plain rfl (fun K hK => ?_); go_simp; refine hK _ ?_; clear hK K) | (refine still_off _ _ _ _ _ rfl rfl rfl rfl rfl (fun K hK => ?_); go_simp; refine hK _ ?_; clear hK K) | (refine still_on _ _ _ _ rfl rfl rfl rfl (fun K hK => ?_); go_simp; refine hK _ ?_; clear hK K) | (refine still_dead _ _ _ _ rfl rfl rfl rfl (fun K hK => ?_); go_simp; refine hK _ ?_; clear hK K))
            refine wpStill_nil ?_
            go_wp2_with (first
              | (go_at_call 88; refine HIN.out.mono ?_; rintro e wq ⟨rfl, hwq⟩; subst wq; clear HIN)
              | (go_at_call 80; refine (fail_r g _ toks _ _ hv sv q.i 6 HP5.out hqi).mono ?_; rintro e W3 ⟨rfl, hp, hc⟩; (have HP5 := Lib.hid hp); (have HG5 := Lib.hid (HG5.out.trans hc (fun _ _ h => h))); (have HO5 := Lib.hid (HO5.out.chg hc (fun k hk e => by have := (HO5.out.lt k hk).1; omega))); clear hp hc)
              | (at_builtin; refine wpList_append_own_at _ rfl _ _ 41 rfl w.heap.size 3 i0 _ 1 8 Tryz.underlying41 hi0 hz0 hz1 hz2 rfl (by decide) _ t.length (t.map (Value.int .i64)) rfl (HO5.out.alloc _) ⟨_, 0, none⟩ 1 1 [.int .i64 tn] rfl rfl ?c1 ?c2 ?c3 ?c4 ?c5 ?_))
            case c1 => exact World.news_of_block (cs := #[.int .i64 tn]) (t := 3) (fr := (0, 0)) (heap_alloc_new _ _)
            case c2 => simp [Value.oneCell']
            case c3 => (try simp only [maxLen]); (try simp); try omega
            case c4 => (try simp); try omega
            case c5 => have := HG5.out.size; simp; omega
            intro v' w2 hown' hgrow _ hat
            have HO2 : Hid (OwnI w.heap.size v' (t ++ [tn]) w2) := Lib.hid (by unfold OwnI; simpa using hown')
            have HP2 := Lib.hid ((HP5.out.below (below_alloc1 _ _)).chg (chg_of_grown hgrow) (fun k hk e => by have := (HO5.out.lt k e).1; omega))
            have HC2 : Hid (Chg (fun k => k = g) w w2) := Lib.hid ((HG5.out.alloc _).trans (chg_of_grown hgrow) (fun k hk e => by have := (HO5.out.lt k e).1; omega))
            clear hown' hgrow hat
            go_wp2_with fail
            go_roundg (scope.length - (t ++ [tn]).length)
            case rel => exact ⟨t ++ [tn], _, by simp, HO2, HP2, HC2, HNX, rfl⟩
            case measure => have := HG.out; simp; omega
          · rw [if_pos hm] at HST
            have HNX := HST
            have HMD : Hid (decide (tn ∈ dom) = false) := Lib.hid (decide_eq_false hm)
            clear hm HST
            go_wp2_with (go_at_call 108; refine HNUM.out.mono ?_; rintro e W1 ⟨rfl, hp, hc⟩; (have p6 := hp.cell6); (have HP4 := Lib.hid hp); (have HG4 : Hid (Chg (fun k => k = g) w W1) := Lib.hid (HC.out.trans hc (fun _ _ h => h))); (have HO4 := Lib.hid (HO.out.chg hc (fun k hk e => by have := (HO.out.lt k hk).1; omega))); clear hp hc)
            refine wp_region_still_tail 12 (by kernel_rfl) (by kernel_rfl) ?_
            change wpStill _ _ (World.drew W1) (fun a' => wpList _ _ _ _ a' (World.drew W1)) _ _
            have hdr := Below.drew (Below.refl W1.heap.size W1)
            have HP5 := Lib.hid (HP4.out.below hdr)
            have HG5 := Lib.hid (HG4.out.thenBelow hdr)
            have HO5 := Lib.hid (HO4.out.chg (chg_of_below hdr (fun _ => False)) (fun _ _ h => h))
            have p2 := HP5.out.cellD
            have c1 := HG5.out.cell (p := ⟨b1, o1 + t.length, none⟩) hn1 c1
            have c2 := HG5.out.cell (p := ⟨b2, o2 + vi.toNat, none⟩) hn2 c2
            have HIN := Lib.hid (refin_any _ dom tn okD _ (HRW.out.chg (by decide) HG5.out (fun k hk => hDg k hk)))
            rw [HMD.out] at HIN
            clear hdr HP4 HG4 HO4 HRW HMD p6 p1
            generalize World.drew W1 = W2 at *
            simp only [List.take_succ_cons, List.take_zero, List.drop_succ_cons, List.drop_zero]
            repeat (first | (refine still_plain rfl (fun K hK => ?_); go_simp; refine hK _ ?_; clear hK K) | (refine still_off _ _ _ _ _ rfl rfl rfl rfl rfl (fun K hK => ?_); go_simp; refine hK _ ?_; clear hK K) | (refine still_on _ _ _ _ rfl rfl rfl rfl (fun K hK => ?_); go_simp; refine hK _ ?_; clear hK K) | (refine still_dead _ _ _ _ rfl rfl rfl rfl (fun K hK => ?_); go_simp; refine hK _ ?_; clear hK K))
            refine wpStill_nil ?_
            go_wp2_with (first
              | (go_at_call 88; refine HIN.out.mono ?_; rintro e wq ⟨rfl, hwq⟩; subst wq; clear HIN)
              | (go_at_call 80; refine (fail_r g _ toks _ _ hv sv q.i 6 HP5.out hqi).mono ?_; rintro e W3 ⟨rfl, hp, hc⟩; (have HP5 := Lib.hid hp); (have HG5 := Lib.hid (HG5.out.trans hc (fun _ _ h => h))); (have HO5 := Lib.hid (HO5.out.chg hc (fun k hk e => by have := (HO5.out.lt k hk).1; omega))); clear hp hc)
              | (at_builtin; refine wpList_append_own_at _ rfl _ _ 41 rfl w.heap.size 3 i0 _ 1 8 Tryz.underlying41 hi0 hz0 hz1 hz2 rfl (by decide) _ t.length (t.map (Value.int .i64)) rfl (HO5.out.alloc _) ⟨_, 0, none⟩ 1 1 [.int .i64 tn] rfl rfl ?c1 ?c2 ?c3 ?c4 ?c5 ?_))
            case c1 => exact World.news_of_block (cs := #[.int .i64 tn]) (t := 3) (fr := (0, 0)) (heap_alloc_new _ _)
            case c2 => simp [Value.oneCell']
            case c3 => (try simp only [maxLen]); (try simp); try omega
            case c4 => (try simp); try omega
            case c5 => have := HG5.out.size; simp; omega
            intro v' w2 hown' hgrow _ hat
            have HO2 : Hid (OwnI w.heap.size v' (t ++ [tn]) w2) := Lib.hid (by unfold OwnI; simpa using hown')
            have HP2 := Lib.hid ((HP5.out.below (below_alloc1 _ _)).chg (chg_of_grown hgrow) (fun k hk e => by have := (HO5.out.lt k e).1; omega))
            have HC2 : Hid (Chg (fun k => k = g) w w2) := Lib.hid ((HG5.out.alloc _).trans (chg_of_grown hgrow) (fun k hk e => by have := (HO5.out.lt k e).1; omega))
            clear hown' hgrow hat
            go_wp2_with fail
            go_roundg (scope.length - (t ++ [tn]).length)
            case rel => exact ⟨t ++ [tn], _, by simp, HO2, HP2, HC2, HNX, rfl⟩
            case measure => have := HG.out; simp; omega
        · have hd2 : ((numberF toks 1000000 q).e == 0) = false := by simp [hq1]
          have HV : Hid (valueF toks (nth [] doms (nth 0 scope t.length).toNat) q = numberF toks 1000000 q) := Lib.hid (by unfold valueF; rw [if_neg (fun hh => hq1 hh.1)])
          rw [HV.out] at HST
          have HNX := HST
          clear hq1 HV HST hv0 hv1
          generalize numberF toks 1000000 q = q1 at *
          generalize (tkF toks q).n = tn at *
          go_wp2_with (first
            | (go_at_call 108; refine HNUM.out.mono ?_; rintro e W1 ⟨rfl, hp, hc⟩; (have p6 := hp.cell6); (have HP5 := Lib.hid hp); (have HG5 : Hid (Chg (fun k => k = g) w W1) := Lib.hid (HC.out.trans hc (fun _ _ h => h))); (have HO5 := Lib.hid (HO.out.chg hc (fun k hk e => by have := (HO.out.lt k hk).1; omega))); clear hp hc)
            | (at_builtin; refine wpList_append_own_at _ rfl _ _ 41 rfl w.heap.size 3 i0 _ 1 8 Tryz.underlying41 hi0 hz0 hz1 hz2 rfl (by decide) _ t.length (t.map (Value.int .i64)) rfl (HO5.out.alloc _) ⟨_, 0, none⟩ 1 1 [.int .i64 tn] rfl rfl ?c1 ?c2 ?c3 ?c4 ?c5 ?_))
          case c1 => exact World.news_of_block (cs := #[.int .i64 tn]) (t := 3) (fr := (0, 0)) (heap_alloc_new _ _)
          case c2 => simp [Value.oneCell']
          case c3 => (try simp only [maxLen]); (try simp); try omega
          case c4 => (try simp); try omega
          case c5 => have := HG5.out.size; simp; omega
          intro v' w2 hown' hgrow _ hat
          have HO2 : Hid (OwnI w.heap.size v' (t ++ [tn]) w2) := Lib.hid (by unfold OwnI; simpa using hown')
          have HP2 := Lib.hid ((HP5.out.below (below_alloc1 _ _)).chg (chg_of_grown hgrow) (fun k hk e => by have := (HO5.out.lt k e).1; omega))
          have HC2 : Hid (Chg (fun k => k = g) w w2) := Lib.hid ((HG5.out.alloc _).trans (chg_of_grown hgrow) (fun k hk e => by have := (HO5.out.lt k e).1; omega))
          clear hown' hgrow hat
          go_wp2_with fail
          go_roundg (scope.length - (t ++ [tn]).length)
          case rel => exact ⟨t ++ [tn], _, by simp, HO2, HP2, HC2, HNX, rfl⟩
          case measure => have := HG.out; simp; omega
      · have hd1 : (q.e == 0) = false := by simp [he]
        have HX : Hid (q.e = 0 → t.length = scope.length) := Lib.hid (fun h => absurd h he)
        clear he
        have hsl := HO.out.sl (by omega)
        obtain ⟨AT, cT, rfl, hcT, hmT, hT⟩ := hsl
        have HF : Hid (rowF toks ahead s t q = if 0 < ahead.length ∧ 0 ≤ cmpL (nth [] ahead (ahead.length - 1)) t then failF toks s.i 6 q else q) := Lib.hid rfl
        have HEND := Lib.hid (row_end (ahead := ahead) hi HI.out HX.out)
        by_cases ha : ahead.length = 0
        · have hda : decide ((0 : Int) < (ahead.length : Int)) = false := decide_eq_false (by omega)
          have hda2 : decide (0 < ahead.length) = false := decide_eq_false (by omega)
          have hda3 : ¬ 0 < ahead.length := by omega
          have HFQ : Hid (rowF toks ahead s t q = q) := Lib.hid (by rw [HF.out, if_neg (by omega)])
          clear ha hT HF
          go_wp2_with fail
          go_ret
          exact ⟨t, _, _, rfl, HO.out, by rw [HFQ.out]; exact HP.out, HC.out, HEND.out⟩
        · obtain ⟨b3, o3, vl, rfl, hb3, c3, hr⟩ := HA.out.elems.row_ok (j := ahead.length - 1) (by omega)
          have hn3 := hAg _ hb3
          have HRL := Lib.hid (hr.chg (by decide) HC.out (fun k hk => hAg k hk))
          obtain ⟨AL, cL, rfl, _, _, _⟩ := hr
          have c3 := HC.out.cell (p := ⟨b3, o3 + (ahead.length - 1), none⟩) hn3 c3
          have hda : decide ((0 : Int) < (ahead.length : Int)) = true := decide_eq_true (by omega)
          have hda2 : decide (0 < ahead.length) = true := decide_eq_true (by omega)
          have w1 : IntKind.i64.wrap ((ahead.length : Int) - 1) = (ahead.length : Int) - 1 := IntWalk.i64_in _ (by omega)
          have w2 : ((ahead.length : Int) - 1).toNat = ahead.length - 1 := by omega
          have w3 : (0 : Int) ≤ (ahead.length : Int) - 1 := by omega
          have w5 : (1 : Int) ≤ (ahead.length : Int) := by omega
          have w4 : (ahead.length : Int) - 1 < (ahead.length : Int) := by omega
          have hap : 0 < ahead.length := by omega
          have HCM := Lib.hid (refcmp_any _ _ (nth [] ahead (ahead.length - 1)) t (fun _ => True) wr (HRL.out.mono (fun _ _ => trivial)) (show Sl (Kd.int .i64) wr (fun _ => True) (.slice AT t.length cT) t from ⟨AT, cT, rfl, hcT, hmT, hT.mono (fun _ _ => trivial)⟩))
          generalize nth [] ahead (ahead.length - 1) = la at *
          generalize cmpL la t = cm at *
          clear ha hT HRL hb3
          by_cases hcm : 0 ≤ cm
          · have hdc : decide ((0 : Int) ≤ cm) = true := decide_eq_true hcm
            have HFQ : Hid (rowF toks ahead s t q = failF toks s.i 6 q) := Lib.hid (by rw [HF.out, if_pos ⟨hap, hcm⟩])
            clear hcm HF
            go_wp2_with (first
              | (go_at_call 66; refine HCM.out.mono ?_; rintro e W2 ⟨rfl, nn, rfl⟩; (have hdr := below_drewN (Below.refl wr.heap.size wr) nn); (have HP2 := Lib.hid (HP.out.below hdr)); (have HC2 := Lib.hid (HC.out.thenBelow hdr)); (have HO2 := Lib.hid (HO.out.chg (chg_of_below hdr (fun _ => False)) (fun _ _ h => h))); clear hdr HCM c3)
              | (go_at_call 80; refine (fail_r g _ toks _ _ hv sv s.i 6 HP2.out hi).mono ?_; rintro e W3 ⟨rfl, hp, hc⟩; (have HP3 := Lib.hid hp); (have HC3 := Lib.hid (HC2.out.trans hc (fun _ _ h => h))); (have HO3 := Lib.hid (HO2.out.chg hc (fun k hk e => by have := (HO2.out.lt k hk).1; omega))); clear hp hc))
            go_ret
            exact ⟨t, _, _, rfl, HO3.out, by rw [HFQ.out]; exact HP3.out, HC3.out, HEND.out⟩
          · have hdc : decide ((0 : Int) ≤ cm) = false := decide_eq_false hcm
            have HFQ : Hid (rowF toks ahead s t q = q) := Lib.hid (by rw [HF.out, if_neg (fun h => hcm h.2)])
            clear hcm HF
            go_wp2_with (go_at_call 66; refine HCM.out.mono ?_; rintro e W2 ⟨rfl, nn, rfl⟩; (have hdr := below_drewN (Below.refl wr.heap.size wr) nn); (have HP2 := Lib.hid (HP.out.below hdr)); (have HC2 := Lib.hid (HC.out.thenBelow hdr)); (have HO2 := Lib.hid (HO.out.chg (chg_of_below hdr (fun _ => False)) (fun _ _ h => h))); clear hdr HCM c3)
            go_ret
            exact ⟨t, _, _, rfl, HO2.out, by rw [HFQ.out]; exact HP2.out, HC2.out, HEND.out⟩
    · have hd0 : decide ((t.length : Int) < scope.length) = false := decide_eq_false (by omega)
      have HX : Hid (q.e = 0 → t.length = scope.length) := Lib.hid (fun _ => by omega)
      clear p6
      have hsl := HO.out.sl (by omega)
      obtain ⟨AT, cT, rfl, hcT, hmT, hT⟩ := hsl
      have HF : Hid (rowF toks ahead s t q = if 0 < ahead.length ∧ 0 ≤ cmpL (nth [] ahead (ahead.length - 1)) t then failF toks s.i 6 q else q) := Lib.hid rfl
      have HEND := Lib.hid (row_end (ahead := ahead) hi HI.out HX.out)
      by_cases ha : ahead.length = 0
      · have hda : decide ((0 : Int) < (ahead.length : Int)) = false := decide_eq_false (by omega)
        have hda2 : decide (0 < ahead.length) = false := decide_eq_false (by omega)
        have hda3 : ¬ 0 < ahead.length := by omega
        have HFQ : Hid (rowF toks ahead s t q = q) := Lib.hid (by rw [HF.out, if_neg (by omega)])
        clear ha hT HF
        go_wp2_with fail
        go_ret
        exact ⟨t, _, _, rfl, HO.out, by rw [HFQ.out]; exact HP.out, HC.out, HEND.out⟩
      · obtain ⟨b3, o3, vl, rfl, hb3, c3, hr⟩ := HA.out.elems.row_ok (j := ahead.length - 1) (by omega)
        have hn3 := hAg _ hb3
        have HRL := Lib.hid (hr.chg (by decide) HC.out (fun k hk => hAg k hk))
        obtain ⟨AL, cL, rfl, _, _, _⟩ := hr
        have c3 := HC.out.cell (p := ⟨b3, o3 + (ahead.length - 1), none⟩) hn3 c3
        have hda : decide ((0 : Int) < (ahead.length : Int)) = true := decide_eq_true (by omega)
        have hda2 : decide (0 < ahead.length) = true := decide_eq_true (by omega)
        have w1 : IntKind.i64.wrap ((ahead.length : Int) - 1) = (ahead.length : Int) - 1 := IntWalk.i64_in _ (by omega)
        have w2 : ((ahead.length : Int) - 1).toNat = ahead.length - 1 := by omega
        have w3 : (0 : Int) ≤ (ahead.length : Int) - 1 := by omega
        have w5 : (1 : Int) ≤ (ahead.length : Int) := by omega
        have w4 : (ahead.length : Int) - 1 < (ahead.length : Int) := by omega
        have hap : 0 < ahead.length := by omega
        have HCM := Lib.hid (refcmp_any _ _ (nth [] ahead (ahead.length - 1)) t (fun _ => True) wr (HRL.out.mono (fun _ _ => trivial)) (show Sl (Kd.int .i64) wr (fun _ => True) (.slice AT t.length cT) t from ⟨AT, cT, rfl, hcT, hmT, hT.mono (fun _ _ => trivial)⟩))
        generalize nth [] ahead (ahead.length - 1) = la at *
        generalize cmpL la t = cm at *
        clear ha hT HRL hb3
        by_cases hcm : 0 ≤ cm
        · have hdc : decide ((0 : Int) ≤ cm) = true := decide_eq_true hcm
          have HFQ : Hid (rowF toks ahead s t q = failF toks s.i 6 q) := Lib.hid (by rw [HF.out, if_pos ⟨hap, hcm⟩])
          clear hcm HF
          go_wp2_with (first
            | (go_at_call 66; refine HCM.out.mono ?_; rintro e W2 ⟨rfl, nn, rfl⟩; (have hdr := below_drewN (Below.refl wr.heap.size wr) nn); (have HP2 := Lib.hid (HP.out.below hdr)); (have HC2 := Lib.hid (HC.out.thenBelow hdr)); (have HO2 := Lib.hid (HO.out.chg (chg_of_below hdr (fun _ => False)) (fun _ _ h => h))); clear hdr HCM c3)
            | (go_at_call 80; refine (fail_r g _ toks _ _ hv sv s.i 6 HP2.out hi).mono ?_; rintro e W3 ⟨rfl, hp, hc⟩; (have HP3 := Lib.hid hp); (have HC3 := Lib.hid (HC2.out.trans hc (fun _ _ h => h))); (have HO3 := Lib.hid (HO2.out.chg hc (fun k hk e => by have := (HO2.out.lt k hk).1; omega))); clear hp hc))
          go_ret
          exact ⟨t, _, _, rfl, HO3.out, by rw [HFQ.out]; exact HP3.out, HC3.out, HEND.out⟩
        · have hdc : decide ((0 : Int) ≤ cm) = false := decide_eq_false hcm
          have HFQ : Hid (rowF toks ahead s t q = q) := Lib.hid (by rw [HF.out, if_neg (fun h => hcm h.2)])
          clear hcm HF
          go_wp2_with (go_at_call 66; refine HCM.out.mono ?_; rintro e W2 ⟨rfl, nn, rfl⟩; (have hdr := below_drewN (Below.refl wr.heap.size wr) nn); (have HP2 := Lib.hid (HP.out.below hdr)); (have HC2 := Lib.hid (HC.out.thenBelow hdr)); (have HO2 := Lib.hid (HO.out.chg (chg_of_below hdr (fun _ => False)) (fun _ _ h => h))); clear hdr HCM c3)
          go_ret
          exact ⟨t, _, _, rfl, HO2.out, by rw [HFQ.out]; exact HP2.out, HC2.out, HEND.out⟩
end Go.Proofs.YtoahaigfjfeopaaGreatDoor

/- What the reference's parser computes: a variable's values. No program, no memory. -/
namespace Go.Proofs.YtoahaigfjfeopaaGreatDoor

/-- One value of a domain. -/
def dvalF (toks : List Tok) (d : List Int) (s : RS) : RS :=
  let s2 := if d.length = 16 then failF toks s.i 7 (numberF toks 1000000 s) else numberF toks 1000000 s
  if 0 < d.length ∧ (tkF toks s).n ≤ lastI d then failF toks s.i 6 s2 else s2
section
variable {toks : List Tok} {s s0 : RS} {d : List Int}
theorem dval_i (hi : s.i < toks.length) : (dvalF toks d s).i < toks.length := by
  have h := number_i (toks := toks) (s := s) 1000000 hi
  unfold dvalF
  dsimp only
  split <;> split <;> (try simp only [fail_i]) <;> exact h
theorem dval_kept : Kept s (dvalF toks d s) := by
  have h := number_kept (toks := toks) (s := s) 1000000
  unfold dvalF
  dsimp only
  split <;> split
  · exact (h.trans (fail_kept _ _)).trans (fail_kept _ _)
  · exact h.trans (fail_kept _ _)
  · exact h.trans (fail_kept _ _)
  · exact h
theorem dval_adv (hT : TokR toks) (hi : s.i < toks.length) (hk : (tkF toks s).kind = 2) : (dvalF toks d s).i = s.i + 1 ∧ s.i + 1 < toks.length := by
  have h := number_adv hT hi 1000000 hk
  refine ⟨?_, h.2⟩
  unfold dvalF
  dsimp only
  split <;> split <;> (try simp only [fail_i]) <;> exact h.1
theorem dval_law (hT : TokR toks) (hi : s.i < toks.length) (he : s.e = 0) (h16 : d.length ≤ 16) (hx : ¬ (d.length ≠ 0 ∧ (tkF toks s).kind ≠ 2)) :
    ((dvalF toks d s).e = 0 → d.length < 16 ∧ (dvalF toks d s).i = s.i + 1 ∧ s.i + 1 < toks.length ∧ domQ (toks.drop s.i) d = domQ (toks.drop (dvalF toks d s).i) (d ++ [(tkF toks s).n])) ∧
    ((dvalF toks d s).e ≠ 0 → domQ (toks.drop s.i) d = .error ((dvalF toks d s).a, (dvalF toks d s).e)) := by
  have hn := number_law hT hi he 1000000
  have hd := drop_tk hi
  rw [hd] at hn ⊢
  rw [domQ, if_neg hx]
  cases hq : numberQ 1000000 (tkF toks s :: toks.drop (s.i + 1)) with
  | error p =>
    obtain ⟨p, x⟩ := p
    rw [hq] at hn
    obtain ⟨h1, h2, h3⟩ := hn
    have hne : (numberF toks 1000000 s).e ≠ 0 := by rw [h2]; exact h3
    have e : dvalF toks d s = numberF toks 1000000 s := by
      unfold dvalF
      dsimp only
      rw [fail_no _ _ hne]
      split <;> split <;> first | rfl | (rw [fail_no _ _ hne])
    rw [e]
    exact ⟨fun h => absurd h hne, fun _ => by rw [h1, h2]⟩
  | ok p =>
    obtain ⟨t, r⟩ := p
    rw [hq] at hn
    obtain ⟨h1, h2, rfl, hi2, hk, hm⟩ := hn
    have hgo := number_good hT hi hk hm
    simp only
    by_cases hl : 16 ≤ d.length
    · have hl6 : d.length = 16 := by omega
      have hf := fail_ok (toks := toks) s.i 7 h1
      have e : dvalF toks d s = ⟨(numberF toks 1000000 s).i, (tkF toks s).at_, 7⟩ := by
        unfold dvalF
        dsimp only
        rw [if_pos hl6, hf]
        split
        · rw [fail_no]; rfl; show (7 : Int) ≠ 0; decide
        · rfl
      rw [if_pos hl, e]
      exact ⟨fun h => absurd h (show (7 : Int) ≠ 0 by decide), fun _ => rfl⟩
    · rw [if_neg hl]
      have e : dvalF toks d s = if 0 < d.length ∧ (tkF toks s).n ≤ lastI d then failF toks s.i 6 (numberF toks 1000000 s) else numberF toks 1000000 s := by
        unfold dvalF
        dsimp only
        rw [if_neg (show ¬ d.length = 16 by omega)]
      by_cases hc : d.length ≠ 0 ∧ (tkF toks s).n ≤ lastI d
      · rw [if_pos hc]
        rw [if_pos ⟨by omega, hc.2⟩, fail_ok _ _ h1] at e
        rw [e]
        exact ⟨fun h => absurd h (show (6 : Int) ≠ 0 by decide), fun _ => rfl⟩
      · rw [if_neg hc]
        rw [if_neg (by omega)] at e
        rw [e]
        exact ⟨fun _ => ⟨by omega, hi2, hgo.2, by rw [hi2]⟩, fun h => absurd h1 h⟩
/-- Ahead of a round of a domain. -/
structure DomI (toks : List Tok) (s0 : RS) (d : List Int) (s : RS) : Prop where
  kept : Kept s0 s
  len : d.length ≤ 17
  good : s.e = 0 → d.length ≤ 16 ∧ domQ (toks.drop s0.i) [] = domQ (toks.drop s.i) d
  bad : s0.e = 0 → s.e ≠ 0 → domQ (toks.drop s0.i) [] = .error (s.a, s.e)
theorem dom_first : DomI toks s0 [] s0 := ⟨Kept.refl _, by simp, fun _ => ⟨by simp, rfl⟩, fun h h' => absurd h h'⟩
theorem dom_step (hT : TokR toks) (hi : s.i < toks.length) (h : DomI toks s0 d s) (he : s.e = 0) (hx : ¬ (d.length ≠ 0 ∧ (tkF toks s).kind ≠ 2)) : DomI toks s0 (d ++ [(tkF toks s).n]) (dvalF toks d s) := by
  obtain ⟨g1, g2⟩ := h.good he
  obtain ⟨k1, k2⟩ := dval_law hT hi he g1 hx
  refine ⟨h.kept.trans dval_kept, by simp; omega, fun h0 => ?_, fun _ h0 => by rw [g2]; exact k2 h0⟩
  obtain ⟨m1, _, _, m2⟩ := k1 h0
  exact ⟨by simp; omega, by rw [g2, m2]⟩
/-- How far a round of a domain comes. -/
def domM (toks : List Tok) (s : RS) : Nat := if s.e = 0 then toks.length - s.i + 1 else 0
theorem dom_less (hT : TokR toks) (hi : s.i < toks.length) (h : DomI toks s0 d s) (he : s.e = 0) (hx : ¬ (d.length ≠ 0 ∧ (tkF toks s).kind ≠ 2)) : domM toks (dvalF toks d s) < domM toks s := by
  have hl := dval_law hT hi he (h.good he).1 hx
  unfold domM
  rw [if_pos he]
  split
  · rename_i h0
    obtain ⟨_, m1, m2, _⟩ := hl.1 h0
    omega
  · omega
def DomP (toks : List Tok) (s0 : RS) (d : List Int) (s : RS) : Prop :=
  Kept s0 s ∧ d.length ≤ 17 ∧ (s0.e = 0 → Ag toks s (match domQ (toks.drop s0.i) [] with | .error e => .error e | .ok (d', r) => match signQ [59] r with | .error e => .error e | .ok (_, r2) => .ok (d', r2)) (fun d' => d' = d))
theorem dom_end (hT : TokR toks) (hi : s.i < toks.length) (h : DomI toks s0 d s) (hx : s.e = 0 → d.length ≠ 0 ∧ (tkF toks s).kind ≠ 2) : DomP toks s0 d (signF toks [59] s) := by
  refine ⟨h.kept.trans (sign_kept _), h.len, fun h0 => ?_⟩
  by_cases he : s.e = 0
  · have hq := (h.good he).2
    obtain ⟨x1, x2⟩ := hx he
    have hd := drop_tk hi
    rw [hd, domQ, if_pos ⟨x1, x2⟩] at hq
    have hs := sign_law hT hi he (str := [59]) (by simp)
    rw [hd] at hs
    rw [hq]
    simp only
    cases hq2 : signQ [59] (tkF toks s :: toks.drop (s.i + 1)) with
    | error p => rw [hq2] at hs; exact hs
    | ok p => rw [hq2] at hs; exact ⟨hs.1, hs.2.1, rfl⟩
  · have hk := (sign_kept (toks := toks) (s := s) [59]).2 he
    rw [h.bad h0 he]
    exact ⟨hk.1, hk.2, he⟩
end
end Go.Proofs.YtoahaigfjfeopaaGreatDoor

/- arboristref06.parser: domain. -/
namespace Go.Proofs.YtoahaigfjfeopaaGreatDoor
open Go.RowKit
attribute [local irreducible] wpStill wpLex wpLexO wpPlan Calls

/-- The reference's parser: where it is, and what is told so far. -/
def RAll (g : Nat) (w : World) (toks : List Tok) (s : RS) (x : Ins) : Prop := ∃ dv hv sv ok, RB g w toks s dv hv sv ∧ PSt g w.heap.size w x dv hv sv ok
section
variable {g : Nat} {w : World} {toks : List Tok} {s : RS} {dv hv sv : Value}
theorem RB.setD (h : RB g w toks s dv hv sv) (v : Value) : RB g (w.setCell ⟨g, 2, none⟩ v) toks s v hv sv := by
  obtain ⟨A, c, h, hs, hi⟩ := h
  exact ⟨A, c, by simp [World.setCell, Array.getElem?_modify, h], hs.chg (by decide) (chg_setCell w g 2 v) (fun k hk e => by have : k < g := hk; omega), hi⟩
theorem RB.setH (h : RB g w toks s dv hv sv) (v : Value) : RB g (w.setCell ⟨g, 3, none⟩ v) toks s dv v sv := by
  obtain ⟨A, c, h, hs, hi⟩ := h
  exact ⟨A, c, by simp [World.setCell, Array.getElem?_modify, h], hs.chg (by decide) (chg_setCell w g 3 v) (fun k hk e => by have : k < g := hk; omega), hi⟩
theorem RB.setS (h : RB g w toks s dv hv sv) (v : Value) : RB g (w.setCell ⟨g, 4, none⟩ v) toks s dv hv v := by
  obtain ⟨A, c, h, hs, hi⟩ := h
  exact ⟨A, c, by simp [World.setCell, Array.getElem?_modify, h], hs.chg (by decide) (chg_setCell w g 4 v) (fun k hk e => by have : k < g := hk; omega), hi⟩
theorem RB.froz (h : RB g w toks s dv hv sv) (i : Nat) : w.frozen? ⟨g, i, none⟩ = false := by
  obtain ⟨A, c, h, _⟩ := h; exact Lib.frozen_of_heap h i
end
def DmRel (g base : Nat) (w : World) (toks : List Tok) (s0 : RS) (dv hv sv : Value) (gm : Nat) (v : Value) (wr : World) : Prop :=
  ∃ (d : List Int) (s : RS), Hid (OwnI base v d wr) ∧ Hid (RB g wr toks s dv hv sv) ∧ Hid (Chg (fun k => k = g) w wr) ∧ Hid (DomI toks s0 d s) ∧ gm = domM toks s
def DmR (g : Nat) (w w' : World) (toks : List Tok) (s0 : RS) (x : Ins) (e : Ending) : Prop :=
  ∃ (d : List Int) (s : RS), e = .returned (.tuple #[]) ∧ RAll g w' toks s { x with doms := x.doms ++ [d] } ∧ Below g w w' ∧ DomP toks s0 d s
set_option maxRecDepth 100000 in
set_option maxHeartbeats 8000000 in
theorem domain_r (g : Nat) (w : World) (toks : List Tok) (s : RS) (x : Ins) (hT : TokR toks) (h : RAll g w toks s x) (hx : x.doms.length ≤ 1000) :
    Calls Tryz.prog 82 #[.pointer (some ⟨g, 0, none⟩)] w fun e w' => DmR g w w' toks s x e := by
  obtain ⟨dv, hv, sv, ok, h, hst⟩ := h
  have hgw := h.lt
  have how := World.ownsRow_lit (base := w.heap.size) (e := 3) (size := 1) w #[] 0 (Nat.le_refl _) (by decide) rfl
  have HO0 : Hid (OwnI w.heap.size (.slice (some ⟨w.heap.size, 0, none⟩) 0 0) [] (w.alloc (.cells #[] 3))) := Lib.hid how
  have HB := Lib.hid (below_alloc1 w (.cells #[] 3))
  have HT := Lib.hid hT
  have H0 := Lib.hid h
  have HS := Lib.hid hst
  have HD := Lib.hid (hst.D.sl (by omega))
  obtain ⟨i0, hi0, hz0, hz1, hz2⟩ := info_parts (show (Tryz.prog.info? 3).map (fun i => (i.zero, i.size, i.bytes)) = some (some (.int .i64 0), 1, 8) by kernel_rfl)
  clear how h hT hst
  go_enter Tryz.func82, Tryz.ntmps82
  go_wp2_with fail
  go_loopg [2] (domM toks s) (fun gm v wr => DmRel g w.heap.size w toks s dv hv sv gm v wr)
  case atStart => exact ⟨[], s, HO0, Lib.hid (H0.out.below HB.out), Lib.hid (chg_of_below HB.out _), Lib.hid dom_first, rfl⟩
  case round =>
    clear HO0 HB H0
    obtain ⟨d, q, HO, HP, HC, HI, hg⟩ := hrel
    have HG := Lib.hid hg
    have p6 := HP.out.cell6
    have hqi := HP.out.idx
    have hgw2 := HP.out.lt
    have hle := HI.out.len
    have hbs := HC.out.size
    have hsl := HO.out.sl (by omega)
    obtain ⟨A, c, rfl, hcc, hcm, _⟩ := hsl
    clear hg
    by_cases he : q.e = 0
    · have hd1 : (q.e == 0) = true := by simp [he]
      have HE := Lib.hid he
      have his := is_r g wr toks q _ hv sv [] HP.out
      by_cases hout : d.length ≠ 0 ∧ (tkF toks q).kind ≠ 2
      · rw [is_not hout.2] at his
        have HIS := Lib.hid his
        have HX : Hid (q.e = 0 → d.length ≠ 0 ∧ (tkF toks q).kind ≠ 2) := Lib.hid (fun _ => hout)
        have hda2 : decide (0 < d.length) = true := decide_eq_true (by omega)
        have hda3 : 0 < d.length := by omega
        clear hout his he
        go_upto_region 12 with (first
          | (go_at_call 107; refine HIS.out.mono ?_; rintro e W1 ⟨rfl, hb⟩; (have HP5 := Lib.hid (HP.out.below hb)); (have HO5 := Lib.hid (HO.out.chg (chg_of_below hb (fun _ => False)) (fun _ _ h => h))); (have HG5 := Lib.hid (HC.out.thenBelow hb)); clear hb HIS)
          | (go_at_call 86; refine (sign_r g _ toks q _ hv sv [59] HP5.out).mono ?_; rintro e W2 ⟨rfl, hp, hc⟩; (have HP6 := Lib.hid hp); (have HO6 := Lib.hid (HO5.out.chg hc (fun k hk e => by have := (HO5.out.lt k hk).1; omega))); (have HG6 := Lib.hid (HG5.out.trans hc (fun _ _ h => h))); clear hp hc HP5 HO5 HG5))
        have HEND := Lib.hid (dom_end HT.out hqi HI.out HX.out)
        have hbs6 := HG6.out.size
        have HS1 := Lib.hid (((HS.out.chg HG6.out (fun k hk => by omega)).fill hbs6 hgw).chg (Chg.alloc0 W2 (.cells #[.slice A d.length c] 41) (fun _ => False)) (fun _ h => h.elim))
        have HP2 := Lib.hid (HP6.out.below (below_alloc1 W2 (.cells #[.slice A d.length c] 41)))
        have HG2 := Lib.hid (((HG6.out.alloc (.cells #[.slice A d.length c] 41)).mono (fun j _ hj => (Or.inl hj : j = g ∨ g + 1 ≤ j))))
        obtain ⟨DA, Dc, rfl, _, _, _⟩ := HD.out
        obtain ⟨css, hc1, hc2⟩ := HS1.out.D.open_
        have HC1 := Lib.hid hc1
        have HC2 := Lib.hid hc2
        have HX2 : Hid (kRow.K (W2.alloc (.cells #[.slice A d.length c] 41)) (fun k => ok k ∨ (w.heap.size ≤ k ∧ k < W2.heap.size)) d [.slice A d.length c]) := Lib.hid ⟨_, rfl, ((HO6.out.done (by omega) (Nat.le_refl _)).below (by decide) (below_alloc1 _ _)).mono fun k h => Or.inr h⟩
        have p2 := HP6.out.cellD
        clear hc1 hc2
        have hlen : x.doms.length ≤ 140737488355328 := by omega
        obtain ⟨iR, hiR, hz0, hz1, hz2⟩ := info_parts (show (Tryz.prog.info? 41).map (fun i => (i.zero, i.size, i.bytes)) = some (some (.slice none 0 0), 1, 24) by kernel_rfl)
        go_wp2_with (at_builtin; refine wpList_append_lies _ rfl _ _ 22 rfl (g + 1) 41 iR _ 1 24 Tryz.underlying22 hiR hz0 hz1 hz2 rfl (by decide) _ x.doms.length css.flatten rfl HC2.out ⟨_, 0, none⟩ 1 1 [.slice A d.length c] rfl rfl (World.news_of_block (cs := #[.slice A d.length c]) (t := 41) (fr := (0, 0)) (heap_alloc_new W2 _)) (by simp [Value.oneCell']) (by decide) (by unfold maxLen; omega) (by omega) (by simp; omega) (W2.heap.size + 1) (by simp) ?_)
        intro kb cap w2 hown' hgrow hat hlt
        have HS3 := Lib.hid (HS1.out.addD (by simp) HC1.out HX2.out hgrow hown' (hat_of hat (by simp)))
        have HP3 := Lib.hid (HP2.out.chg (chg_of_grown hgrow) (fun k hk e => by have := (HC2.out.lt k e).1; omega))
        have HG3 := Lib.hid (HG2.out.trans (chg_of_grown hgrow) (fun j hj hs => by have := (HC2.out.lt j hs).1; exact Or.inr this))
        clear hown' hgrow hat
        have g2 := HP3.out.cellD
        have f2 := HP3.out.froz 2
        go_wp2
        go_end0
        refine ⟨d, _, rfl, ⟨_, hv, sv, _, HP3.out.setD _, (HS3.out.chg (chg_setCell w2 g 2 _) (fun k hk => by omega)).later (by rw [Go.Deep.nblk_setCell]; exact Nat.le_refl _)⟩, ?_, HEND.out⟩
        exact (HG3.out.trans (chg_setCell w2 g 2 _) (fun j _ hs => Or.inl hs)).below (fun k hk e => by omega) (by omega)
      · have HNX := Lib.hid (dom_step HT.out hqi HI.out he hout)
        have HLS := Lib.hid (dom_less HT.out hqi HI.out he hout)
        have HF : Hid (dvalF toks d q = if 0 < d.length ∧ (tkF toks q).n ≤ lastI d then failF toks q.i 6 (if d.length = 16 then failF toks q.i 7 (numberF toks 1000000 q) else numberF toks 1000000 q) else (if d.length = 16 then failF toks q.i 7 (numberF toks 1000000 q) else numberF toks 1000000 q)) := Lib.hid rfl
        obtain ⟨tn, htn⟩ : ∃ tn, (tkF toks q).n = tn := ⟨_, rfl⟩
        have HTN := Lib.hid htn
        rw [htn] at HNX HF
        clear htn he
        by_cases h0 : d.length = 0
        · obtain rfl : d = [] := List.eq_nil_of_length_eq_zero h0
          rw [if_neg (by simp), if_neg (by simp)] at HF
          clear h0 hout
          by_cases hk : (tkF toks q).kind = 2
          · rw [is_num hk] at his
            have HIS := Lib.hid his
            clear hk his
            go_wp2_with (first
              | (go_at_call 107; refine HIS.out.mono ?_; rintro e W1 ⟨rfl, hb⟩; (have HP2 := Lib.hid (HP.out.below hb)); (have HO2 := Lib.hid (HO.out.chg (chg_of_below hb (fun _ => False)) (fun _ _ h => h))); (have HG2 := Lib.hid (HC.out.thenBelow hb)); (have p1 := HP2.out.cell1); skip; clear hb HIS)
              | (go_at_call 108; refine (number_r g _ toks q _ hv sv 1000000 (by decide) (by decide) HP2.out).mono ?_; rw [HTN.out]; rintro e W2 ⟨rfl, hp, hc⟩; (have HP3 := Lib.hid hp); (have HO3 := Lib.hid (HO2.out.chg hc (fun k hk e => by have := (HO2.out.lt k hk).1; omega))); (have HG3 := Lib.hid (HG2.out.trans hc (fun _ _ h => h))); skip; clear hp hc)
              | (go_at_call 80; refine (fail_r g _ toks _ _ hv sv q.i 7 HP3.out hqi).mono ?_; rintro e W3 ⟨rfl, hp, hc⟩; (have HP3 := Lib.hid hp); (have HO3 := Lib.hid (HO3.out.chg hc (fun k hk e => by have := (HO3.out.lt k hk).1; omega))); (have HG3 := Lib.hid (HG3.out.trans hc (fun _ _ h => h))); skip; clear hp hc)
              | (go_at_call 80; refine (fail_r g _ toks _ _ hv sv q.i 6 HP3.out hqi).mono ?_; rintro e W4 ⟨rfl, hp, hc⟩; (have HP3 := Lib.hid hp); (have HO3 := Lib.hid (HO3.out.chg hc (fun k hk e => by have := (HO3.out.lt k hk).1; omega))); (have HG3 := Lib.hid (HG3.out.trans hc (fun _ _ h => h))); clear hp hc)
              | (at_builtin; refine wpList_append_own_at _ rfl _ _ 41 rfl w.heap.size 3 i0 _ 1 8 Tryz.underlying41 hi0 hz0 hz1 hz2 rfl (by decide) _ (([] : List Int)).length ((([] : List Int)).map (Value.int .i64)) rfl (HO3.out.alloc _) ⟨_, 0, none⟩ 1 1 [.int .i64 tn] rfl rfl ?c1 ?c2 ?c3 ?c4 ?c5 ?_))
            case c1 => exact World.news_of_block (cs := #[.int .i64 tn]) (t := 3) (fr := (0, 0)) (heap_alloc_new _ _)
            case c2 => simp [Value.oneCell']
            case c3 => (try simp only [maxLen]); (try simp); try omega
            case c4 => (try simp); try omega
            case c5 => have := HG3.out.size; simp; omega
            intro v' w2 hown' hgrow _ hat
            have HO4 : Hid (OwnI w.heap.size v' (([] : List Int) ++ [tn]) w2) := Lib.hid (by unfold OwnI; simpa using hown')
            have HP4 := Lib.hid ((HP3.out.below (below_alloc1 _ _)).chg (chg_of_grown hgrow) (fun k hk e => by have := (HO3.out.lt k e).1; omega))
            have HC4 : Hid (Chg (fun k => k = g) w w2) := Lib.hid ((HG3.out.alloc _).trans (chg_of_grown hgrow) (fun k hk e => by have := (HO3.out.lt k e).1; omega))
            clear hown' hgrow hat
            go_wp2_with fail
            go_roundg (domM toks (dvalF toks (([] : List Int)) q))
            case rel => exact ⟨([] : List Int) ++ [tn], _, HO4, by rw [HF.out]; exact HP4, HC4, HNX, rfl⟩
            case measure => have := HG.out; have := HLS.out; omega
          · rw [is_not hk] at his
            have HIS := Lib.hid his
            clear hk his
            go_wp2_with (first
              | (go_at_call 107; refine HIS.out.mono ?_; rintro e W1 ⟨rfl, hb⟩; (have HP2 := Lib.hid (HP.out.below hb)); (have HO2 := Lib.hid (HO.out.chg (chg_of_below hb (fun _ => False)) (fun _ _ h => h))); (have HG2 := Lib.hid (HC.out.thenBelow hb)); (have p1 := HP2.out.cell1); skip; clear hb HIS)
              | (go_at_call 108; refine (number_r g _ toks q _ hv sv 1000000 (by decide) (by decide) HP2.out).mono ?_; rw [HTN.out]; rintro e W2 ⟨rfl, hp, hc⟩; (have HP3 := Lib.hid hp); (have HO3 := Lib.hid (HO2.out.chg hc (fun k hk e => by have := (HO2.out.lt k hk).1; omega))); (have HG3 := Lib.hid (HG2.out.trans hc (fun _ _ h => h))); skip; clear hp hc)
              | (go_at_call 80; refine (fail_r g _ toks _ _ hv sv q.i 7 HP3.out hqi).mono ?_; rintro e W3 ⟨rfl, hp, hc⟩; (have HP3 := Lib.hid hp); (have HO3 := Lib.hid (HO3.out.chg hc (fun k hk e => by have := (HO3.out.lt k hk).1; omega))); (have HG3 := Lib.hid (HG3.out.trans hc (fun _ _ h => h))); skip; clear hp hc)
              | (go_at_call 80; refine (fail_r g _ toks _ _ hv sv q.i 6 HP3.out hqi).mono ?_; rintro e W4 ⟨rfl, hp, hc⟩; (have HP3 := Lib.hid hp); (have HO3 := Lib.hid (HO3.out.chg hc (fun k hk e => by have := (HO3.out.lt k hk).1; omega))); (have HG3 := Lib.hid (HG3.out.trans hc (fun _ _ h => h))); clear hp hc)
              | (at_builtin; refine wpList_append_own_at _ rfl _ _ 41 rfl w.heap.size 3 i0 _ 1 8 Tryz.underlying41 hi0 hz0 hz1 hz2 rfl (by decide) _ (([] : List Int)).length ((([] : List Int)).map (Value.int .i64)) rfl (HO3.out.alloc _) ⟨_, 0, none⟩ 1 1 [.int .i64 tn] rfl rfl ?c1 ?c2 ?c3 ?c4 ?c5 ?_))
            case c1 => exact World.news_of_block (cs := #[.int .i64 tn]) (t := 3) (fr := (0, 0)) (heap_alloc_new _ _)
            case c2 => simp [Value.oneCell']
            case c3 => (try simp only [maxLen]); (try simp); try omega
            case c4 => (try simp); try omega
            case c5 => have := HG3.out.size; simp; omega
            intro v' w2 hown' hgrow _ hat
            have HO4 : Hid (OwnI w.heap.size v' (([] : List Int) ++ [tn]) w2) := Lib.hid (by unfold OwnI; simpa using hown')
            have HP4 := Lib.hid ((HP3.out.below (below_alloc1 _ _)).chg (chg_of_grown hgrow) (fun k hk e => by have := (HO3.out.lt k e).1; omega))
            have HC4 : Hid (Chg (fun k => k = g) w w2) := Lib.hid ((HG3.out.alloc _).trans (chg_of_grown hgrow) (fun k hk e => by have := (HO3.out.lt k e).1; omega))
            clear hown' hgrow hat
            go_wp2_with fail
            go_roundg (domM toks (dvalF toks (([] : List Int)) q))
            case rel => exact ⟨([] : List Int) ++ [tn], _, HO4, by rw [HF.out]; exact HP4, HC4, HNX, rfl⟩
            case measure => have := HG.out; have := HLS.out; omega
        · have hk : (tkF toks q).kind = 2 := by
            by_cases hk : (tkF toks q).kind = 2
            · exact hk
            · exact absurd ⟨h0, hk⟩ hout
          rw [is_num hk] at his
          have HIS := Lib.hid his
          clear hk his hout
          obtain ⟨b, rfl, hb, p3⟩ := OwnI.cell HO.out (j := d.length - 1) (by omega)
          have p3 : wr.cell? ⟨b, d.length - 1, none⟩ = some (.int .i64 (lastI d)) := p3
          have w0 : decide ((0 : Int) < (d.length : Int)) = true := decide_eq_true (by omega)
          have w1 : IntKind.i64.wrap ((d.length : Int) - 1) = (d.length : Int) - 1 := IntWalk.i64_in _ (by omega)
          have w2 : ((d.length : Int) - 1).toNat = d.length - 1 := by omega
          have w3 : (0 : Int) ≤ (d.length : Int) - 1 := by omega
          have w5 : (1 : Int) ≤ (d.length : Int) := by omega
          have w4 : (d.length : Int) - 1 < (d.length : Int) := by omega
          have hlp : 0 < d.length := by omega
          generalize lastI d = la at *
          clear h0
          by_cases h6 : d.length = 16
          · rw [if_pos h6] at HF
            have hd6 : ((d.length : Int) == 16) = true := by simp; omega
            clear h6
            by_cases h4 : tn ≤ la
            · have hd4 : decide (tn ≤ la) = true := decide_eq_true h4
              rw [if_pos ⟨hlp, h4⟩] at HF
              clear h4
              go_wp2_with (first
                | (go_at_call 107; refine HIS.out.mono ?_; rintro e W1 ⟨rfl, hb⟩; (have HP2 := Lib.hid (HP.out.below hb)); (have HO2 := Lib.hid (HO.out.chg (chg_of_below hb (fun _ => False)) (fun _ _ h => h))); (have HG2 := Lib.hid (HC.out.thenBelow hb)); (have p1 := HP2.out.cell1); (have p3 := cell_kept hb p3); clear hb HIS)
                | (go_at_call 108; refine (number_r g _ toks q _ hv sv 1000000 (by decide) (by decide) HP2.out).mono ?_; rw [HTN.out]; rintro e W2 ⟨rfl, hp, hc⟩; (have HP3 := Lib.hid hp); (have HO3 := Lib.hid (HO2.out.chg hc (fun k hk e => by have := (HO2.out.lt k hk).1; omega))); (have HG3 := Lib.hid (HG2.out.trans hc (fun _ _ h => h))); (have p3 := hc.cell (p := ⟨b, d.length - 1, none⟩) (fun e : b = g => by omega) p3); clear hp hc)
                | (go_at_call 80; refine (fail_r g _ toks _ _ hv sv q.i 7 HP3.out hqi).mono ?_; rintro e W3 ⟨rfl, hp, hc⟩; (have HP3 := Lib.hid hp); (have HO3 := Lib.hid (HO3.out.chg hc (fun k hk e => by have := (HO3.out.lt k hk).1; omega))); (have HG3 := Lib.hid (HG3.out.trans hc (fun _ _ h => h))); (have p3 := hc.cell (p := ⟨b, d.length - 1, none⟩) (fun e : b = g => by omega) p3); clear hp hc)
                | (go_at_call 80; refine (fail_r g _ toks _ _ hv sv q.i 6 HP3.out hqi).mono ?_; rintro e W4 ⟨rfl, hp, hc⟩; (have HP3 := Lib.hid hp); (have HO3 := Lib.hid (HO3.out.chg hc (fun k hk e => by have := (HO3.out.lt k hk).1; omega))); (have HG3 := Lib.hid (HG3.out.trans hc (fun _ _ h => h))); clear hp hc)
                | (at_builtin; refine wpList_append_own_at _ rfl _ _ 41 rfl w.heap.size 3 i0 _ 1 8 Tryz.underlying41 hi0 hz0 hz1 hz2 rfl (by decide) _ (d).length ((d).map (Value.int .i64)) rfl (HO3.out.alloc _) ⟨_, 0, none⟩ 1 1 [.int .i64 tn] rfl rfl ?c1 ?c2 ?c3 ?c4 ?c5 ?_))
              case c1 => exact World.news_of_block (cs := #[.int .i64 tn]) (t := 3) (fr := (0, 0)) (heap_alloc_new _ _)
              case c2 => simp [Value.oneCell']
              case c3 => (try simp only [maxLen]); (try simp); try omega
              case c4 => (try simp); try omega
              case c5 => have := HG3.out.size; simp; omega
              intro v' w2 hown' hgrow _ hat
              have HO4 : Hid (OwnI w.heap.size v' (d ++ [tn]) w2) := Lib.hid (by unfold OwnI; simpa using hown')
              have HP4 := Lib.hid ((HP3.out.below (below_alloc1 _ _)).chg (chg_of_grown hgrow) (fun k hk e => by have := (HO3.out.lt k e).1; omega))
              have HC4 : Hid (Chg (fun k => k = g) w w2) := Lib.hid ((HG3.out.alloc _).trans (chg_of_grown hgrow) (fun k hk e => by have := (HO3.out.lt k e).1; omega))
              clear hown' hgrow hat
              go_wp2_with fail
              go_roundg (domM toks (dvalF toks (d) q))
              case rel => exact ⟨d ++ [tn], _, HO4, by rw [HF.out]; exact HP4, HC4, HNX, rfl⟩
              case measure => have := HG.out; have := HLS.out; omega
            · have hd4 : decide (tn ≤ la) = false := decide_eq_false h4
              rw [if_neg (fun h => h4 h.2)] at HF
              clear h4
              go_wp2_with (first
                | (go_at_call 107; refine HIS.out.mono ?_; rintro e W1 ⟨rfl, hb⟩; (have HP2 := Lib.hid (HP.out.below hb)); (have HO2 := Lib.hid (HO.out.chg (chg_of_below hb (fun _ => False)) (fun _ _ h => h))); (have HG2 := Lib.hid (HC.out.thenBelow hb)); (have p1 := HP2.out.cell1); (have p3 := cell_kept hb p3); clear hb HIS)
                | (go_at_call 108; refine (number_r g _ toks q _ hv sv 1000000 (by decide) (by decide) HP2.out).mono ?_; rw [HTN.out]; rintro e W2 ⟨rfl, hp, hc⟩; (have HP3 := Lib.hid hp); (have HO3 := Lib.hid (HO2.out.chg hc (fun k hk e => by have := (HO2.out.lt k hk).1; omega))); (have HG3 := Lib.hid (HG2.out.trans hc (fun _ _ h => h))); (have p3 := hc.cell (p := ⟨b, d.length - 1, none⟩) (fun e : b = g => by omega) p3); clear hp hc)
                | (go_at_call 80; refine (fail_r g _ toks _ _ hv sv q.i 7 HP3.out hqi).mono ?_; rintro e W3 ⟨rfl, hp, hc⟩; (have HP3 := Lib.hid hp); (have HO3 := Lib.hid (HO3.out.chg hc (fun k hk e => by have := (HO3.out.lt k hk).1; omega))); (have HG3 := Lib.hid (HG3.out.trans hc (fun _ _ h => h))); (have p3 := hc.cell (p := ⟨b, d.length - 1, none⟩) (fun e : b = g => by omega) p3); clear hp hc)
                | (go_at_call 80; refine (fail_r g _ toks _ _ hv sv q.i 6 HP3.out hqi).mono ?_; rintro e W4 ⟨rfl, hp, hc⟩; (have HP3 := Lib.hid hp); (have HO3 := Lib.hid (HO3.out.chg hc (fun k hk e => by have := (HO3.out.lt k hk).1; omega))); (have HG3 := Lib.hid (HG3.out.trans hc (fun _ _ h => h))); clear hp hc)
                | (at_builtin; refine wpList_append_own_at _ rfl _ _ 41 rfl w.heap.size 3 i0 _ 1 8 Tryz.underlying41 hi0 hz0 hz1 hz2 rfl (by decide) _ (d).length ((d).map (Value.int .i64)) rfl (HO3.out.alloc _) ⟨_, 0, none⟩ 1 1 [.int .i64 tn] rfl rfl ?c1 ?c2 ?c3 ?c4 ?c5 ?_))
              case c1 => exact World.news_of_block (cs := #[.int .i64 tn]) (t := 3) (fr := (0, 0)) (heap_alloc_new _ _)
              case c2 => simp [Value.oneCell']
              case c3 => (try simp only [maxLen]); (try simp); try omega
              case c4 => (try simp); try omega
              case c5 => have := HG3.out.size; simp; omega
              intro v' w2 hown' hgrow _ hat
              have HO4 : Hid (OwnI w.heap.size v' (d ++ [tn]) w2) := Lib.hid (by unfold OwnI; simpa using hown')
              have HP4 := Lib.hid ((HP3.out.below (below_alloc1 _ _)).chg (chg_of_grown hgrow) (fun k hk e => by have := (HO3.out.lt k e).1; omega))
              have HC4 : Hid (Chg (fun k => k = g) w w2) := Lib.hid ((HG3.out.alloc _).trans (chg_of_grown hgrow) (fun k hk e => by have := (HO3.out.lt k e).1; omega))
              clear hown' hgrow hat
              go_wp2_with fail
              go_roundg (domM toks (dvalF toks (d) q))
              case rel => exact ⟨d ++ [tn], _, HO4, by rw [HF.out]; exact HP4, HC4, HNX, rfl⟩
              case measure => have := HG.out; have := HLS.out; omega
          · rw [if_neg h6] at HF
            have hd6 : ((d.length : Int) == 16) = false := by simp; omega
            clear h6
            by_cases h4 : tn ≤ la
            · have hd4 : decide (tn ≤ la) = true := decide_eq_true h4
              rw [if_pos ⟨hlp, h4⟩] at HF
              clear h4
              go_wp2_with (first
                | (go_at_call 107; refine HIS.out.mono ?_; rintro e W1 ⟨rfl, hb⟩; (have HP2 := Lib.hid (HP.out.below hb)); (have HO2 := Lib.hid (HO.out.chg (chg_of_below hb (fun _ => False)) (fun _ _ h => h))); (have HG2 := Lib.hid (HC.out.thenBelow hb)); (have p1 := HP2.out.cell1); (have p3 := cell_kept hb p3); clear hb HIS)
                | (go_at_call 108; refine (number_r g _ toks q _ hv sv 1000000 (by decide) (by decide) HP2.out).mono ?_; rw [HTN.out]; rintro e W2 ⟨rfl, hp, hc⟩; (have HP3 := Lib.hid hp); (have HO3 := Lib.hid (HO2.out.chg hc (fun k hk e => by have := (HO2.out.lt k hk).1; omega))); (have HG3 := Lib.hid (HG2.out.trans hc (fun _ _ h => h))); (have p3 := hc.cell (p := ⟨b, d.length - 1, none⟩) (fun e : b = g => by omega) p3); clear hp hc)
                | (go_at_call 80; refine (fail_r g _ toks _ _ hv sv q.i 7 HP3.out hqi).mono ?_; rintro e W3 ⟨rfl, hp, hc⟩; (have HP3 := Lib.hid hp); (have HO3 := Lib.hid (HO3.out.chg hc (fun k hk e => by have := (HO3.out.lt k hk).1; omega))); (have HG3 := Lib.hid (HG3.out.trans hc (fun _ _ h => h))); (have p3 := hc.cell (p := ⟨b, d.length - 1, none⟩) (fun e : b = g => by omega) p3); clear hp hc)
                | (go_at_call 80; refine (fail_r g _ toks _ _ hv sv q.i 6 HP3.out hqi).mono ?_; rintro e W4 ⟨rfl, hp, hc⟩; (have HP3 := Lib.hid hp); (have HO3 := Lib.hid (HO3.out.chg hc (fun k hk e => by have := (HO3.out.lt k hk).1; omega))); (have HG3 := Lib.hid (HG3.out.trans hc (fun _ _ h => h))); clear hp hc)
                | (at_builtin; refine wpList_append_own_at _ rfl _ _ 41 rfl w.heap.size 3 i0 _ 1 8 Tryz.underlying41 hi0 hz0 hz1 hz2 rfl (by decide) _ (d).length ((d).map (Value.int .i64)) rfl (HO3.out.alloc _) ⟨_, 0, none⟩ 1 1 [.int .i64 tn] rfl rfl ?c1 ?c2 ?c3 ?c4 ?c5 ?_))
              case c1 => exact World.news_of_block (cs := #[.int .i64 tn]) (t := 3) (fr := (0, 0)) (heap_alloc_new _ _)
              case c2 => simp [Value.oneCell']
              case c3 => (try simp only [maxLen]); (try simp); try omega
              case c4 => (try simp); try omega
              case c5 => have := HG3.out.size; simp; omega
              intro v' w2 hown' hgrow _ hat
              have HO4 : Hid (OwnI w.heap.size v' (d ++ [tn]) w2) := Lib.hid (by unfold OwnI; simpa using hown')
              have HP4 := Lib.hid ((HP3.out.below (below_alloc1 _ _)).chg (chg_of_grown hgrow) (fun k hk e => by have := (HO3.out.lt k e).1; omega))
              have HC4 : Hid (Chg (fun k => k = g) w w2) := Lib.hid ((HG3.out.alloc _).trans (chg_of_grown hgrow) (fun k hk e => by have := (HO3.out.lt k e).1; omega))
              clear hown' hgrow hat
              go_wp2_with fail
              go_roundg (domM toks (dvalF toks (d) q))
              case rel => exact ⟨d ++ [tn], _, HO4, by rw [HF.out]; exact HP4, HC4, HNX, rfl⟩
              case measure => have := HG.out; have := HLS.out; omega
            · have hd4 : decide (tn ≤ la) = false := decide_eq_false h4
              rw [if_neg (fun h => h4 h.2)] at HF
              clear h4
              go_wp2_with (first
                | (go_at_call 107; refine HIS.out.mono ?_; rintro e W1 ⟨rfl, hb⟩; (have HP2 := Lib.hid (HP.out.below hb)); (have HO2 := Lib.hid (HO.out.chg (chg_of_below hb (fun _ => False)) (fun _ _ h => h))); (have HG2 := Lib.hid (HC.out.thenBelow hb)); (have p1 := HP2.out.cell1); (have p3 := cell_kept hb p3); clear hb HIS)
                | (go_at_call 108; refine (number_r g _ toks q _ hv sv 1000000 (by decide) (by decide) HP2.out).mono ?_; rw [HTN.out]; rintro e W2 ⟨rfl, hp, hc⟩; (have HP3 := Lib.hid hp); (have HO3 := Lib.hid (HO2.out.chg hc (fun k hk e => by have := (HO2.out.lt k hk).1; omega))); (have HG3 := Lib.hid (HG2.out.trans hc (fun _ _ h => h))); (have p3 := hc.cell (p := ⟨b, d.length - 1, none⟩) (fun e : b = g => by omega) p3); clear hp hc)
                | (go_at_call 80; refine (fail_r g _ toks _ _ hv sv q.i 7 HP3.out hqi).mono ?_; rintro e W3 ⟨rfl, hp, hc⟩; (have HP3 := Lib.hid hp); (have HO3 := Lib.hid (HO3.out.chg hc (fun k hk e => by have := (HO3.out.lt k hk).1; omega))); (have HG3 := Lib.hid (HG3.out.trans hc (fun _ _ h => h))); (have p3 := hc.cell (p := ⟨b, d.length - 1, none⟩) (fun e : b = g => by omega) p3); clear hp hc)
                | (go_at_call 80; refine (fail_r g _ toks _ _ hv sv q.i 6 HP3.out hqi).mono ?_; rintro e W4 ⟨rfl, hp, hc⟩; (have HP3 := Lib.hid hp); (have HO3 := Lib.hid (HO3.out.chg hc (fun k hk e => by have := (HO3.out.lt k hk).1; omega))); (have HG3 := Lib.hid (HG3.out.trans hc (fun _ _ h => h))); clear hp hc)
                | (at_builtin; refine wpList_append_own_at _ rfl _ _ 41 rfl w.heap.size 3 i0 _ 1 8 Tryz.underlying41 hi0 hz0 hz1 hz2 rfl (by decide) _ (d).length ((d).map (Value.int .i64)) rfl (HO3.out.alloc _) ⟨_, 0, none⟩ 1 1 [.int .i64 tn] rfl rfl ?c1 ?c2 ?c3 ?c4 ?c5 ?_))
              case c1 => exact World.news_of_block (cs := #[.int .i64 tn]) (t := 3) (fr := (0, 0)) (heap_alloc_new _ _)
              case c2 => simp [Value.oneCell']
              case c3 => (try simp only [maxLen]); (try simp); try omega
              case c4 => (try simp); try omega
              case c5 => have := HG3.out.size; simp; omega
              intro v' w2 hown' hgrow _ hat
              have HO4 : Hid (OwnI w.heap.size v' (d ++ [tn]) w2) := Lib.hid (by unfold OwnI; simpa using hown')
              have HP4 := Lib.hid ((HP3.out.below (below_alloc1 _ _)).chg (chg_of_grown hgrow) (fun k hk e => by have := (HO3.out.lt k e).1; omega))
              have HC4 : Hid (Chg (fun k => k = g) w w2) := Lib.hid ((HG3.out.alloc _).trans (chg_of_grown hgrow) (fun k hk e => by have := (HO3.out.lt k e).1; omega))
              clear hown' hgrow hat
              go_wp2_with fail
              go_roundg (domM toks (dvalF toks (d) q))
              case rel => exact ⟨d ++ [tn], _, HO4, by rw [HF.out]; exact HP4, HC4, HNX, rfl⟩
              case measure => have := HG.out; have := HLS.out; omega
    · have hd1 : (q.e == 0) = false := by simp [he]
      have HX : Hid (q.e = 0 → d.length ≠ 0 ∧ (tkF toks q).kind ≠ 2) := Lib.hid (fun h => absurd h he)
      clear he
      have HP5 := HP
      have HO5 := HO
      have HG5 := HC
      go_upto_region 12 with (first
        | fail
        | (go_at_call 86; refine (sign_r g _ toks q _ hv sv [59] HP5.out).mono ?_; rintro e W2 ⟨rfl, hp, hc⟩; (have HP6 := Lib.hid hp); (have HO6 := Lib.hid (HO5.out.chg hc (fun k hk e => by have := (HO5.out.lt k hk).1; omega))); (have HG6 := Lib.hid (HG5.out.trans hc (fun _ _ h => h))); clear hp hc HP5 HO5 HG5))
      have HEND := Lib.hid (dom_end HT.out hqi HI.out HX.out)
      have hbs6 := HG6.out.size
      have HS1 := Lib.hid (((HS.out.chg HG6.out (fun k hk => by omega)).fill hbs6 hgw).chg (Chg.alloc0 W2 (.cells #[.slice A d.length c] 41) (fun _ => False)) (fun _ h => h.elim))
      have HP2 := Lib.hid (HP6.out.below (below_alloc1 W2 (.cells #[.slice A d.length c] 41)))
      have HG2 := Lib.hid (((HG6.out.alloc (.cells #[.slice A d.length c] 41)).mono (fun j _ hj => (Or.inl hj : j = g ∨ g + 1 ≤ j))))
      obtain ⟨DA, Dc, rfl, _, _, _⟩ := HD.out
      obtain ⟨css, hc1, hc2⟩ := HS1.out.D.open_
      have HC1 := Lib.hid hc1
      have HC2 := Lib.hid hc2
      have HX2 : Hid (kRow.K (W2.alloc (.cells #[.slice A d.length c] 41)) (fun k => ok k ∨ (w.heap.size ≤ k ∧ k < W2.heap.size)) d [.slice A d.length c]) := Lib.hid ⟨_, rfl, ((HO6.out.done (by omega) (Nat.le_refl _)).below (by decide) (below_alloc1 _ _)).mono fun k h => Or.inr h⟩
      have p2 := HP6.out.cellD
      clear hc1 hc2
      have hlen : x.doms.length ≤ 140737488355328 := by omega
      obtain ⟨iR, hiR, hz0, hz1, hz2⟩ := info_parts (show (Tryz.prog.info? 41).map (fun i => (i.zero, i.size, i.bytes)) = some (some (.slice none 0 0), 1, 24) by kernel_rfl)
      go_wp2_with (at_builtin; refine wpList_append_lies _ rfl _ _ 22 rfl (g + 1) 41 iR _ 1 24 Tryz.underlying22 hiR hz0 hz1 hz2 rfl (by decide) _ x.doms.length css.flatten rfl HC2.out ⟨_, 0, none⟩ 1 1 [.slice A d.length c] rfl rfl (World.news_of_block (cs := #[.slice A d.length c]) (t := 41) (fr := (0, 0)) (heap_alloc_new W2 _)) (by simp [Value.oneCell']) (by decide) (by unfold maxLen; omega) (by omega) (by simp; omega) (W2.heap.size + 1) (by simp) ?_)
      intro kb cap w2 hown' hgrow hat hlt
      have HS3 := Lib.hid (HS1.out.addD (by simp) HC1.out HX2.out hgrow hown' (hat_of hat (by simp)))
      have HP3 := Lib.hid (HP2.out.chg (chg_of_grown hgrow) (fun k hk e => by have := (HC2.out.lt k e).1; omega))
      have HG3 := Lib.hid (HG2.out.trans (chg_of_grown hgrow) (fun j hj hs => by have := (HC2.out.lt j hs).1; exact Or.inr this))
      clear hown' hgrow hat
      have g2 := HP3.out.cellD
      have f2 := HP3.out.froz 2
      go_wp2
      go_end0
      refine ⟨d, _, rfl, ⟨_, hv, sv, _, HP3.out.setD _, (HS3.out.chg (chg_setCell w2 g 2 _) (fun k hk => by omega)).later (by rw [Go.Deep.nblk_setCell]; exact Nat.le_refl _)⟩, ?_, HEND.out⟩
      exact (HG3.out.trans (chg_setCell w2 g 2 _) (fun j _ hs => Or.inl hs)).below (fun k hk e => by omega) (by omega)
end Go.Proofs.YtoahaigfjfeopaaGreatDoor

/- What the reference's parser computes: tables. No program, no memory. -/
namespace Go.Proofs.YtoahaigfjfeopaaGreatDoor

/-- The end of a statement. -/
def thenSign {α : Type} (r : PR α) : PR α := match r with
  | .error e => .error e
  | .ok (v, ts) => match signQ [59] ts with
    | .error e => .error e
    | .ok (_, r2) => .ok (v, r2)
section
variable {toks : List Tok} {s s0 s1 : RS} {doms : List (List Int)} {scope t : List Int} {rows : List (List Int)}
theorem ag_sign {α : Type} {r : PR α} {P : α → Prop} (hT : TokR toks) (hi : s.i < toks.length) (h : Ag toks s r P) : Ag toks (signF toks [59] s) (thenSign r) P := by
  cases r with
  | error p =>
    obtain ⟨p, x⟩ := p
    obtain ⟨h1, h2, h3⟩ := h
    have hk := (sign_kept (toks := toks) (s := s) [59]).2 (by rw [h2]; exact h3)
    exact ⟨hk.1.trans h1, hk.2.trans h2, h3⟩
  | ok p =>
    obtain ⟨v, ts⟩ := p
    obtain ⟨h1, rfl, h3⟩ := h
    have hs := sign_law hT hi h1 (str := [59]) (by simp)
    unfold thenSign
    simp only
    cases hq : signQ [59] (toks.drop s.i) with
    | error p => rw [hq] at hs; exact hs
    | ok p => rw [hq] at hs; exact ⟨hs.1, hs.2.1, h3⟩
theorem ag_imp {α : Type} {r : PR α} {P Q : α → Prop} (h : Ag toks s r P) (hp : ∀ a, P a → Q a) : Ag toks s r Q := by
  cases r with
  | error p => exact h
  | ok p => exact ⟨h.1, h.2.1, hp _ h.2.2⟩
theorem ag_bad {α : Type} {r : PR α} {P : α → Prop} (h : Ag toks s r P) (he : s.e ≠ 0) : r = .error (s.a, s.e) := by
  cases r with
  | error p => obtain ⟨p, x⟩ := p; rw [h.1, h.2.1]
  | ok p => exact absurd h.1 he
theorem ag_good {α : Type} {r : PR α} {P : α → Prop} (h : Ag toks s r P) (he : s.e = 0) : ∃ v, r = .ok (v, toks.drop s.i) ∧ P v := by
  cases r with
  | error p => obtain ⟨p, x⟩ := p; exact absurd (h.2.1.symm.trans he) h.2.2
  | ok p => obtain ⟨v, ts⟩ := p; exact ⟨v, by rw [h.2.1], h.2.2⟩
/-- Ahead of a round of a table. -/
structure TabI (toks : List Tok) (doms : List (List Int)) (scope : List Int) (s1 : RS) (rows : List (List Int)) (s : RS) : Prop where
  kept : Kept s1 s
  len : rows.length ≤ s.i
  good : s.e = 0 → ∃ n, toks.length - s.i < n ∧ rowsQ doms scope ((toks.drop s1.i).length + 1) [] (toks.drop s1.i) = rowsQ doms scope n rows (toks.drop s.i)
  bad : s1.e = 0 → s.e ≠ 0 → rowsQ doms scope ((toks.drop s1.i).length + 1) [] (toks.drop s1.i) = .error (s.a, s.e)
theorem tab_first : TabI toks doms scope s1 [] s1 := ⟨Kept.refl _, Nat.zero_le _, fun _ => ⟨_, by rw [List.length_drop]; omega, rfl⟩, fun h h' => absurd h h'⟩
/-- Behind a row that no comma follows. -/
theorem tab_last (hT : TokR toks) (h : TabI toks doms scope s1 rows s) (he : s.e = 0) {s2 : RS} (hi2 : s2.i < toks.length) (hr : RowP toks doms scope rows s t s2) (hm : isF toks [44] s2 = false) :
    Kept s1 s2 ∧ (s1.e = 0 → Ag toks s2 (rowsQ doms scope ((toks.drop s1.i).length + 1) [] (toks.drop s1.i)) (fun r => r = rows ++ [t])) := by
  refine ⟨h.kept.trans hr.1, fun h1 => ?_⟩
  obtain ⟨n, hn, hq⟩ := h.good he
  obtain ⟨n, rfl⟩ : ∃ m, n = m + 1 := ⟨n - 1, by omega⟩
  have ha := hr.2.2 he
  by_cases he2 : s2.e = 0
  · obtain ⟨v, hv, rfl, _⟩ := ag_good ha he2
    rw [hq, rowsQ, hv]
    simp only
    rw [is_eq hT hi2 (by simp)] at hm
    rw [drop_tk hi2, isQ]
    simp only [hm]
    exact ⟨he2, (drop_tk hi2).symm, rfl⟩
  · rw [hq, rowsQ, ag_bad ha he2]
    exact ⟨rfl, rfl, he2⟩
/-- Behind a row and a comma. -/
theorem tab_step (hT : TokR toks) (h : TabI toks doms scope s1 rows s) (he : s.e = 0) {s2 : RS} (hi2 : s2.i < toks.length) (hr : RowP toks doms scope rows s t s2) (hm : isF toks [44] s2 = true) :
    TabI toks doms scope s1 (rows ++ [t]) (nextF toks s2) ∧ s.i < (nextF toks s2).i := by
  obtain ⟨n, hn, hq⟩ := h.good he
  obtain ⟨n, rfl⟩ : ∃ m, n = m + 1 := ⟨n - 1, by omega⟩
  have ha := hr.2.2 he
  have hle := hr.1.1
  rw [is_eq hT hi2 (by simp)] at hm
  have h4 : (tkF toks s2).kind ≠ 4 := by intro h4; simp [isP, h4] at hm
  have hadv := next_adv hT hi2 h4
  have hlen := h.len
  rw [hadv.1]
  have hk : Kept s1 ⟨s2.i + 1, s2.a, s2.e⟩ := (h.kept.trans hr.1).trans (by rw [← hadv.1]; exact next_kept)
  refine ⟨⟨hk, by simp; omega, fun he2 => ?_, fun h1 he2 => ?_⟩, by simp only; omega⟩
  · have he2 : s2.e = 0 := he2
    obtain ⟨v, hv, rfl, _⟩ := ag_good ha he2
    refine ⟨n, by simp only; omega, ?_⟩
    rw [hq, rowsQ, hv]
    simp only
    rw [drop_tk hi2, isQ]
    simp only [hm]
    rfl
  · have he2 : s2.e ≠ 0 := he2
    rw [hq, rowsQ, ag_bad ha he2]
/-- Behind the rows of a table. -/
def TabP (toks : List Tok) (doms : List (List Int)) (scope : List Int) (sA : RS) (rows : List (List Int)) (s : RS) : Prop :=
  Kept sA s ∧ rows.length ≤ 200000 ∧ (sA.e = 0 → Ag toks s (tableQ doms scope (toks.drop sA.i)) (fun r => r = rows))
theorem tab_none (hT : TokR toks) {sA : RS} (hA : sA.i < toks.length) (hm : isF toks [59] (signF toks [58] sA) = true) : TabP toks doms scope sA [] (signF toks [58] sA) := by
  refine ⟨sign_kept _, by simp, fun h0 => ?_⟩
  have hs := sign_law hT hA h0 (str := [58]) (by simp)
  have hi1 := sign_i (toks := toks) [58] hA
  rw [is_eq hT hi1 (by simp)] at hm
  rw [tableQ]
  cases hq : signQ [58] (toks.drop sA.i) with
  | error p => rw [hq] at hs; exact hs
  | ok p =>
    obtain ⟨u, r⟩ := p
    rw [hq] at hs
    obtain ⟨h1, rfl, _⟩ := hs
    simp only
    have htk : nth default (toks.drop (signF toks [58] sA).i) 0 = tkF toks (signF toks [58] sA) := by rw [drop_tk hi1]; rfl
    rw [htk]
    have hk := hT.kind _ (tk_mem hi1)
    have hw := hT.word _ (tk_mem hi1)
    generalize tkF toks (signF toks [58] sA) = u at *
    simp only [isP, Bool.and_eq_true, Bool.or_eq_true, beq_iff_eq, decide_eq_true_eq] at hm
    have h3 : u.kind = 3 := by
      rcases hm.1 with h | h
      · have := hw h 59 (by rw [hm.2]; simp)
        simp [isLetter] at this
      · exact h
    rw [if_pos ⟨h3, hm.2⟩]
    exact ⟨h1, rfl, rfl⟩
/-- The first sign of a table, where rows follow. -/
theorem tab_rows (hT : TokR toks) {sA : RS} (hA : sA.i < toks.length) (h0 : sA.e = 0) (h1 : (signF toks [58] sA).e = 0) (hm : isF toks [59] (signF toks [58] sA) = false) :
    tableQ doms scope (toks.drop sA.i) = rowsQ doms scope ((toks.drop (signF toks [58] sA).i).length + 1) [] (toks.drop (signF toks [58] sA).i) := by
  have hs := sign_law hT hA h0 (str := [58]) (by simp)
  have hi1 := sign_i (toks := toks) [58] hA
  rw [is_eq hT hi1 (by simp)] at hm
  rw [tableQ]
  obtain ⟨v, hv, _⟩ := ag_good hs h1
  rw [hv]
  simp only
  have htk : nth default (toks.drop (signF toks [58] sA).i) 0 = tkF toks (signF toks [58] sA) := by rw [drop_tk hi1]; rfl
  rw [htk, if_neg]
  rintro ⟨h3, h4⟩
  simp [isP, h3, h4] at hm
theorem tab_end (hT : TokR toks) {sA : RS} (hA : sA.i < toks.length) (hm : isF toks [59] (signF toks [58] sA) = false) (hk : Kept (signF toks [58] sA) s) (hl : rows.length ≤ 200000)
    (h : (signF toks [58] sA).e = 0 → Ag toks s (rowsQ doms scope ((toks.drop (signF toks [58] sA).i).length + 1) [] (toks.drop (signF toks [58] sA).i)) (fun r => r = rows)) : TabP toks doms scope sA rows s := by
  refine ⟨(sign_kept _).trans hk, hl, fun h0 => ?_⟩
  by_cases h1 : (signF toks [58] sA).e = 0
  · rw [tab_rows hT hA h0 h1 hm]; exact h h1
  · have hs := sign_law hT hA h0 (str := [58]) (by simp)
    have hb := ag_bad hs h1
    have h2 := hk.2 h1
    rw [tableQ, hb]
    exact ⟨h2.1, h2.2, h1⟩
theorem tab_out (h : TabI toks doms scope s1 rows s) (hi : s.i < toks.length) (hT : TokR toks) (he : s.e ≠ 0) : Kept s1 s ∧ rows.length ≤ 200000 ∧ (s1.e = 0 → Ag toks s (rowsQ doms scope ((toks.drop s1.i).length + 1) [] (toks.drop s1.i)) (fun r => r = rows)) :=
  ⟨h.kept, by have := h.len; have := hT.len; omega, fun h1 => by rw [h.bad h1 he]; exact ⟨rfl, rfl, he⟩⟩
theorem hard_tab {kind : Int} {sc : List Int} {sA s2 : RS} (h6 : ¬ kind = 6) (h2 : kind ≤ 2) (hs : ScoP toks doms.length s0 sc sA) (ht : TabP toks doms sc sA rows s2) (h0 : s0.e = 0) : Ag toks s2 (hardQ doms kind (toks.drop s0.i)) (fun c => c = ⟨kind, sc, rows, []⟩) := by
  have ha := hs.2.2.2 h0
  rw [hardQ, if_neg h6]
  by_cases hA : sA.e = 0
  · obtain ⟨v, hv, rfl, _⟩ := ag_good ha hA
    rw [hv]
    simp only
    rw [if_pos h2]
    have hb := ht.2.2 hA
    by_cases he : s2.e = 0
    · obtain ⟨u, hu, rfl⟩ := ag_good hb he
      rw [hu]
      exact ⟨he, rfl, rfl⟩
    · rw [ag_bad hb he]
      exact ⟨rfl, rfl, he⟩
  · rw [ag_bad ha hA]
    have := ht.1.2 hA
    exact ⟨this.1, this.2, hA⟩
theorem hard_bare {kind : Int} {sc : List Int} {sA : RS} (h6 : ¬ kind = 6) (h2 : ¬ kind ≤ 2) (hs : ScoP toks doms.length s0 sc sA) (h0 : s0.e = 0) : Ag toks sA (hardQ doms kind (toks.drop s0.i)) (fun c => c = ⟨kind, sc, [], []⟩) := by
  have ha := hs.2.2.2 h0
  rw [hardQ, if_neg h6]
  by_cases hA : sA.e = 0
  · obtain ⟨v, hv, rfl, _⟩ := ag_good ha hA
    rw [hv]
    simp only
    rw [if_neg h2]
    exact ⟨hA, rfl, rfl⟩
  · rw [ag_bad ha hA]
    exact ⟨rfl, rfl, hA⟩
end
end Go.Proofs.YtoahaigfjfeopaaGreatDoor

/- arboristref06.parser: tables. -/
namespace Go.Proofs.YtoahaigfjfeopaaGreatDoor
open Go.RowKit
attribute [local irreducible] wpStill wpLex wpLexO wpPlan Calls

/-- A constraint in its box, its rows of the call's own. -/
structure TabS (gc : Nat) (w : World) (kind : Int) (vs rv va : Value) (rows : List (List Int)) (okR : Nat → Prop) : Prop where
  con : ConAt gc w kind vs rv va
  own : OwnD kRow 41 (gc + 1) okR rv rows w
  okr : ∀ k, okR k → gc < k ∧ k < w.heap.size
theorem TabS.chg {g gc : Nat} {a b : World} {kind : Int} {vs rv va : Value} {rows : List (List Int)} {okR : Nat → Prop} (h : TabS gc a kind vs rv va rows okR) (hc : Chg (fun k => k = g) a b) (hg : g < gc) : TabS gc b kind vs rv va rows okR :=
  ⟨hc.heap h.con (fun e => by omega), h.own.chg hc (fun k hk e => by have := h.okr k hk; omega) (fun k hk e => by have := h.own.own k hk; omega), fun k hk => ⟨(h.okr k hk).1, Nat.lt_of_lt_of_le (h.okr k hk).2 hc.size⟩⟩
theorem TabS.below {gc : Nat} {a b : World} {kind : Int} {vs rv va : Value} {rows : List (List Int)} {okR : Nat → Prop} (h : TabS gc a kind vs rv va rows okR) (hb : Below a.heap.size a b) : TabS gc b kind vs rv va rows okR :=
  ⟨block_kept hb h.con, h.own.chg (chg_of_below hb (fun _ => False)) (fun _ _ h => h) (fun _ _ h => h), fun k hk => ⟨(h.okr k hk).1, Nat.lt_of_lt_of_le (h.okr k hk).2 hb.size⟩⟩
def TbRel (g gc : Nat) (w : World) (toks : List Tok) (doms : List (List Int)) (sc : List Int) (s1 : RS) (kind : Int) (vs va dv hv sv : Value) (gm : Nat) (wr : World) : Prop :=
  ∃ (rows : List (List Int)) (rv : Value) (okR : Nat → Prop) (s : RS), Hid (TabS gc wr kind vs rv va rows okR) ∧ Hid (RB g wr toks s dv hv sv) ∧ Hid (Chg (fun k => k = g ∨ k = gc) w wr) ∧ Hid (TabI toks doms sc s1 rows s) ∧ gm = toks.length - s.i
def TbMid (g gc : Nat) (w wx : World) (toks : List Tok) (doms : List (List Int)) (sc : List Int) (sA : RS) (kind : Int) (vs va dv hv sv : Value) : Prop :=
  ∃ (rows : List (List Int)) (rv : Value) (okR : Nat → Prop) (s : RS), TabS gc wx kind vs rv va rows okR ∧ RB g wx toks s dv hv sv ∧ Chg (fun k => k = g ∨ k = gc) w wx ∧ TabP toks doms sc sA rows s
def ConR (g : Nat) (w w' : World) (toks : List Tok) (s0 : RS) (x : Ins) (kind : Int) (e : Ending) : Prop :=
  ∃ (c : Con) (s : RS), e = .returned (.tuple #[]) ∧ RAll g w' toks s { x with hard := x.hard ++ [c] } ∧ Below g w w' ∧ Kept s0 s ∧ (s0.e = 0 → Ag toks s (thenSign (hardQ x.doms kind (toks.drop s0.i))) (fun c' => c' = c))
set_option maxRecDepth 100000 in
set_option maxHeartbeats 8000000 in
theorem tables_r (g : Nat) (w : World) (toks : List Tok) (s : RS) (x : Ins) (kind : Int) (hT : TokR toks) (h : RAll g w toks s x) (hx : x.hard.length ≤ 1000) (hd : x.doms.length ≤ 1000) (hk6 : ¬ kind = 6) (hk2 : kind ≤ 2) :
    Calls Tryz.prog 87 #[.pointer (some ⟨g, 0, none⟩), .int .i64 kind] w fun e w' => ConR g w w' toks s x kind e := by
  obtain ⟨dv, hv, sv, ok, h, hst⟩ := h
  have hgw := h.lt
  have HT := Lib.hid hT
  have HST := Lib.hid hst
  have hD0 := hst.D.sl (by omega)
  have hDg0 : ∀ k, (ok k ∨ dv.ownBlock = some k) → g < k ∧ k < w.heap.size := fun k hk => by
    rcases hk with hk | hk
    · exact hst.okg k hk
    · have := hst.D.own k hk; omega
  obtain ⟨DA, Dc, rfl, _, _, _⟩ := hD0
  have HD0 := Lib.hid (hst.D.sl (by omega))
  have HDG := Lib.hid hDg0
  have HSC := Lib.hid (scope_r g w toks s DA x.doms.length Dc hv sv hT (by omega) h)
  have H0 := Lib.hid h
  clear h hT hst hDg0
  go_enter Tryz.func87, Tryz.ntmps87
  go_upto_region 1 with (go_at_call 85; refine HSC.out.mono ?_; rintro e W1 ⟨sc, sA, vs, rfl, ho, hp, hc, hpp⟩; (have HO := Lib.hid ho); (have HP := Lib.hid hp); (have HC := Lib.hid hc); (have HPP := Lib.hid hpp); (obtain ⟨SA, Sc, rfl, _, _, _⟩ := ho.sl (by have := hpp.2.2.1; omega)); clear ho hp hc hpp HSC)
  have hal := below_alloc1 W1 (.cells #[.int .i64 kind, .slice SA sc.length Sc, .slice none 0 0, .slice none 0 0] 43)
  have hTS : TabS W1.heap.size (W1.alloc (.cells #[.int .i64 kind, .slice SA sc.length Sc, .slice none 0 0, .slice none 0 0] 43)) kind (.slice SA sc.length Sc) (.slice none 0 0) (.slice none 0 0) [] (fun _ => False) := ⟨heap_alloc_new W1 _, OwnD.nil _ _ _ _ _, fun _ h => h.elim⟩
  have HTS := Lib.hid hTS
  have HP1 := Lib.hid (HP.out.below hal)
  have HG1 := Lib.hid (HC.out.thenBelow hal)
  have HD := Lib.hid (HD0.out.chg (by decide) HG1.out (fun k hk => by have := HDG.out k hk; omega))
  have HS := Lib.hid ((HO.out.done (by have := HPP.out.2.2.1; omega) (Nat.le_refl _)).below (by decide) hal)
  have hgc := HC.out.size
  have hgb : (W1.alloc (.cells #[.int .i64 kind, .slice SA sc.length Sc, .slice none 0 0, .slice none 0 0] 43)).heap.size = W1.heap.size + 1 := by simp
  clear hal hTS HP HC HO HD0 H0
  generalize W1.alloc (.cells #[.int .i64 kind, .slice SA sc.length Sc, .slice none 0 0, .slice none 0 0] 43) = Wb at *
  generalize W1.heap.size = gc at *
  have hsA := HP1.out.idx
  obtain ⟨B, hB⟩ : ∃ B, isF toks [59] (signF toks [58] sA) = B := ⟨_, rfl⟩
  have HB := Lib.hid hB
  clear hB
  go_upto_block 0 with (first
    | (go_at_call 86; refine (sign_r g _ toks sA _ hv sv [58] HP1.out).mono ?_; rintro e W2 ⟨rfl, hp, hc⟩; (have HP2 := Lib.hid hp); (have HC2 := Lib.hid hc); clear hp hc)
    | (go_at_call 107; refine (is_r g _ toks _ _ hv sv [59] HP2.out).mono ?_; rw [HB.out]; rintro e W3 ⟨rfl, hb⟩; (have HP3 := Lib.hid (HP2.out.below hb)); (have HC3 : Hid (Chg (fun k => k = g) Wb W3) := Lib.hid (HC2.out.thenBelow hb)); clear hb HP2 HC2))
  have HTS3 := Lib.hid (HTS.out.chg HC3.out (by omega))
  have HG3 := Lib.hid (HC3.out.mono (T := fun k => k = g ∨ k = gc) (fun _ _ h => Or.inl h))
  clear HC3 HTS HP1
  go_cut [6] from 15 to 40 (fun _ wx => TbMid g gc Wb wx toks x.doms sc sA kind (.slice SA sc.length Sc) (.slice none 0 0) (.slice DA x.doms.length Dc) hv sv)
  case first =>
    have hs1i := HP3.out.idx
    have hs7 := HPP.out.2.2.1
    have hlt := HT.out.len
    cases B with
    | true =>
      go_wp2_with fail
      go_loopg [6] 0 (fun gm _ wr => wr = W3 ∧ gm = 0)
      case atStart => exact ⟨rfl, rfl⟩
      case round =>
        obtain ⟨rfl, hg⟩ := hrel
        clear hg
        go_wp2_with fail
        go_meet
        case rel => exact ⟨[], _, _, _, HTS3.out, HP3.out, HG3.out, tab_none HT.out hsA HB.out⟩
    | false =>
      go_wp2_with fail
      go_loopg [6] (toks.length - (signF toks [58] sA).i) (fun gm _ wr => TbRel g gc Wb toks x.doms sc (signF toks [58] sA) kind (.slice SA sc.length Sc) (.slice none 0 0) (.slice DA x.doms.length Dc) hv sv gm wr)
      case atStart => exact ⟨[], _, _, _, HTS3, HP3, HG3, Lib.hid tab_first, rfl⟩
      case round =>
        clear HTS3 HP3 HG3 HST
        obtain ⟨rows, rv, okR, q, HTS, HP, HC, HI, hg⟩ := hrel
        have HG := Lib.hid hg
        have p6 := HP.out.cell6
        have hqi := HP.out.idx
        have hrl := HI.out.len
        have hbs := HC.out.size
        obtain ⟨RA, Rc, hrv, _, _, _⟩ := HTS.out.own.sl (by omega)
        subst hrv
        clear hg
        by_cases he : q.e = 0
        · have hd1 : (q.e == 0) = true := by simp [he]
          have HE := Lib.hid he
          have hsA0 : sA.e = 0 := (sign_kept (toks := toks) (s := sA) [58]).ok (HI.out.kept.ok he)
          have hsr : ∀ v ∈ sc, 0 ≤ v ∧ v < x.doms.length := by
            obtain ⟨l', hl', he', _, hr⟩ := ag_good (HPP.out.2.2.2 (HPP.out.1.ok hsA0)) hsA0
            exact hr
          have HSR := Lib.hid hsr
          have hdr := Below.drew (Below.refl wr.heap.size wr)
          have HPd := Lib.hid (HP.out.below hdr)
          have HTd := Lib.hid (HTS.out.below hdr)
          have HCd := Lib.hid HC.out.drew
          have HRW := Lib.hid (row_r g (World.drew wr) toks q x.doms DA Dc hv sv _ _ _ sc SA Sc rows _ HT.out HPd.out (HD.out.chg (by decide) HCd.out (fun k hk e => by have := HDG.out k hk; omega)) (fun k hk => by have := HDG.out k hk; omega)
            (HS.out.chg (by decide) HCd.out (fun k hk e => by omega)) (fun k hk => by omega) hs7 (fun _ => HSR.out) (HTd.out.own.sl (by omega)) (fun k hk => by
              rcases hk with hk | hk
              · have := HTd.out.okr k hk; omega
              · have := HTd.out.own.own k hk; omega))
          have c1 : (World.drew wr).cell? ⟨gc, 1, none⟩ = some (.slice SA sc.length Sc) := cell_at HTd.out.con (i := 1) rfl
          have c2 : (World.drew wr).cell? ⟨gc, 2, none⟩ = some (.slice RA rows.length Rc) := cell_at HTd.out.con (i := 2) rfl
          obtain ⟨iR, hiR, hz0, hz1, hz2⟩ := info_parts (show (Tryz.prog.info? 41).map (fun i => (i.zero, i.size, i.bytes)) = some (some (.slice none 0 0), 1, 24) by kernel_rfl)
          clear he hsA0 hsr hdr HP HTS HC
          go_upto_region 4 with fail
          refine wp_region_lex (fun w' => w'.cell? ⟨gc, 1, none⟩ = some (.slice SA sc.length Sc) ∧ w'.cell? ⟨gc, 2, none⟩ = some (.slice RA rows.length Rc)) [true, true, true, true, true, true, true, false, false, false, false, false] (by kernel_rfl) (by kernel_rfl) (fun c a d v w h => by cases d <;> exact h) ?_
          change wpLex _ _ _ _ _ _ _ _ _ (World.drew wr)
          have hbd : wr.heap.size ≤ (World.drew wr).heap.size := Nat.le_refl _
          generalize World.drew wr = W at *
          repeat (first | (refine lex_take ⟨c1, c2⟩ rfl (fun w' hw' => by (obtain ⟨u1, u2⟩ := hw'; (try go_simp); try rfl)) (fun K hK => ?_); go_simp; refine hK _ _ ?_; clear hK K) | (refine lex_take_on _ _ _ _ ⟨c1, c2⟩ rfl rfl rfl rfl (fun w' hw' => by (obtain ⟨u1, u2⟩ := hw'; (try go_simp); try rfl)) (fun K hK => ?_); go_simp; refine hK _ _ ?_; clear hK K) | (refine lex_take_off _ _ _ _ _ ⟨c1, c2⟩ rfl rfl rfl rfl rfl (fun K hK => ?_); go_simp; refine hK _ _ ?_; clear hK K))
          refine lex_step rfl (fun K hK => ?_)
          go_wp2_with (go_at_call 109; refine HRW.out.mono ?_; rintro e w4 ⟨t, q2, v4, rfl, ho4, hp4, hc4, hrp⟩)
          have HT4 := Lib.hid (HTd.out.chg hc4 (by omega))
          have HP4 := Lib.hid hp4
          have HC4 : Hid (Chg (fun k => k = g ∨ k = gc) Wb w4) := Lib.hid (HCd.out.trans hc4 (fun _ _ h => Or.inl h))
          have HO4 := Lib.hid ho4
          have HRP := Lib.hid hrp
          have hsz4 := hc4.size
          have htl := hrp.2.1
          obtain ⟨TA, Tc, rfl, _, _, _⟩ := ho4.sl (by omega)
          have d1 : w4.cell? ⟨gc, 1, none⟩ = some (.slice SA sc.length Sc) := cell_at HT4.out.con (i := 1) rfl
          have d2 : w4.cell? ⟨gc, 2, none⟩ = some (.slice RA rows.length Rc) := cell_at HT4.out.con (i := 2) rfl
          refine hK _ _ ⟨d1, d2⟩ ?_
          clear hK K ho4 hp4 hc4 hrp c1 c2 HRW
          refine lex_step rfl (fun K hK => ?_)
          go_wp2_with fail
          have hal := below_alloc1 w4 (.cells #[.slice TA t.length Tc] 41)
          refine hK _ _ ⟨cell_kept hal d1, cell_kept hal d2⟩ ?_
          clear hK K d1 d2
          have hgw4 := HT4.out.con
          have hgcw := lt_of_block hgw4
          have HN5 := Lib.hid (show OwnD kRow 41 (gc + 1) (fun k => okR k ∨ (W.heap.size ≤ k ∧ k < w4.heap.size)) (.slice RA rows.length Rc) rows (w4.alloc (.cells #[.slice TA t.length Tc] 41)) from
            (HT4.out.own.mono (fun _ h => Or.inl h) (fun k hk hn => by
              have h1 := HT4.out.own.own k hk
              have h2 := HTd.out.own.own k hk
              rcases hn with hn | hn
              · exact h1.2.2 hn
              · omega)).chg (chg_of_below hal (fun _ => False)) (fun _ _ h => h) (fun _ _ h => h))
          have HX5 : Hid (kRow.K (w4.alloc (.cells #[.slice TA t.length Tc] 41)) (fun k => okR k ∨ (W.heap.size ≤ k ∧ k < w4.heap.size)) t [.slice TA t.length Tc]) := Lib.hid ⟨_, rfl, ((HO4.out.done (by omega) (Nat.le_refl _)).below (by decide) hal).mono fun k h => Or.inr h⟩
          have HP5 := Lib.hid (HP4.out.below hal)
          obtain ⟨css, hcs1, hcs2⟩ := HN5.out.open_
          have HCS1 := Lib.hid hcs1
          have HCS2 := Lib.hid hcs2
          clear hcs1 hcs2 hal hgw4
          refine lex_step rfl (fun K hK => ?_)
          refine wp_append_lies _ _ _ 22 rfl (gc + 1) 41 iR _ 1 24 Tryz.underlying22 hiR hz0 hz1 hz2 rfl (by decide) (.slice RA rows.length Rc) rows.length css.flatten rfl HCS2.out ⟨_, 0, none⟩ 1 1 [.slice TA t.length Tc] rfl rfl (World.news_of_block (cs := #[.slice TA t.length Tc]) (t := 41) (fr := (0, 0)) (heap_alloc_new w4 _)) (by simp [Value.oneCell']) (by decide) (by simp only [maxLen]; omega) (by omega) (by simp; omega) (w4.heap.size + 1) (by simp) ?_
          intro kb cap V3 hown hgrow hat hltk
          have HON := Lib.hid (OwnD.snoc HCS1.out.1 HCS1.out.2.1 HCS1.out.2.2 HX5.out hgrow hown (hat_of hat (by simp)) (fun k hk => by
            rcases hk with hk | hk
            · have := (HT4.out.okr k hk).2; simp; omega
            · simp; omega))
          have HC6 : Hid (Chg (fun k => k = g ∨ k = gc) Wb V3) := Lib.hid ((HC4.out.alloc _).trans (chg_of_grown hgrow) (fun k hk e => by have := (HCS2.out.lt k e).1; omega))
          have HP6 := Lib.hid (HP5.out.chg (chg_of_grown hgrow) (fun k hk e => by have := (HCS2.out.lt k e).1; omega))
          have hc6 : ConAt gc V3 kind (.slice SA sc.length Sc) (.slice RA rows.length Rc) (.slice none 0 0) := (chg_of_grown hgrow).heap (block_kept (below_alloc1 _ _) HT4.out.con) (fun e => by have := (HCS2.out.lt gc e).1; omega)
          have e1 : V3.cell? ⟨gc, 1, none⟩ = some (.slice SA sc.length Sc) := cell_at hc6 (i := 1) rfl
          have e2 : V3.cell? ⟨gc, 2, none⟩ = some (.slice RA rows.length Rc) := cell_at hc6 (i := 2) rfl
          have ef := Lib.frozen_of_heap hc6 2
          have hs3 := hgrow.size
          simp only [World.alloc, Array.size_push] at hs3
          refine hK _ _ ⟨e1, e2⟩ ?_
          clear hK K hown hat hgrow e1
          have HT7 : Hid (TabS gc (V3.setCell ⟨gc, 2, none⟩ (.slice (some ⟨kb, 0, none⟩) (rows.length + 1) cap)) kind (.slice SA sc.length Sc) (.slice (some ⟨kb, 0, none⟩) (rows.length + 1) cap) (.slice none 0 0) (rows ++ [t]) (fun k => okR k ∨ (W.heap.size ≤ k ∧ k < w4.heap.size))) := Lib.hid ⟨by unfold ConAt at hc6 ⊢; simp [World.setCell, Array.getElem?_modify, hc6], HON.out.chg (chg_setCell V3 gc 2 _) (fun k hk e => by
              rcases hk with hk | hk
              · have := HT4.out.okr k hk; omega
              · omega) (fun k hk e => by have := HON.out.own k hk; omega), fun k hk => by
              rw [Go.Deep.nblk_setCell]
              rcases hk with hk | hk
              · have := HT4.out.okr k hk; omega
              · omega⟩
          have HC7 : Hid (Chg (fun k => k = g ∨ k = gc) Wb (V3.setCell ⟨gc, 2, none⟩ (.slice (some ⟨kb, 0, none⟩) (rows.length + 1) cap))) := Lib.hid (HC6.out.trans (chg_setCell V3 gc 2 _) (fun _ _ h => Or.inr h))
          have HP7 := Lib.hid (HP6.out.chg (chg_setCell V3 gc 2 (.slice (some ⟨kb, 0, none⟩) (rows.length + 1) cap)) (fun k hk e => by omega))
          have HIS := Lib.hid (is_r g _ toks q2 _ hv sv [44] HP7.out)
          have hq2 := HP7.out.idx
          clear HT4 HP4 HC4 HO4 HN5 HX5 HP5 HCS1 HCS2 HON HC6 HP6 hc6
          refine lex_list _ _ _ _ _ rfl (by kernel_rfl) ?_
          cases hm : isF toks [44] q2 with
          | false =>
            rw [hm] at HIS
            have HL := Lib.hid (tab_last HT.out HI.out HE.out hq2 HRP.out hm)
            clear hm
            go_wp2_with (go_at_call 107; refine HIS.out.mono ?_; rintro e w9 ⟨rfl, hb⟩; (have HB9 := Lib.hid hb); clear hb)
            go_meet
            case rel => exact ⟨rows ++ [t], _, _, q2, HT7.out.below HB9.out, HP7.out.below HB9.out, HC7.out.thenBelow HB9.out, tab_end HT.out hsA HB.out HL.out.1 (by simp; omega) HL.out.2⟩
          | true =>
            rw [hm] at HIS
            have HL := Lib.hid (tab_step HT.out HI.out HE.out hq2 HRP.out hm)
            clear hm
            go_wp2_with (first
              | (go_at_call 107; refine HIS.out.mono ?_; rintro e w9 ⟨rfl, hb⟩; (have HB9 := Lib.hid hb); clear hb)
              | (go_at_call 81; refine (next_r g _ toks q2 _ hv sv (HP7.out.below HB9.out)).mono ?_; rintro e wa ⟨rfl, hp, hc⟩; (have HPa := Lib.hid hp); (have HCa := Lib.hid hc); clear hp hc))
            go_roundg (toks.length - (nextF toks q2).i)
            case rel => exact ⟨rows ++ [t], _, _, _, Lib.hid ((HT7.out.below HB9.out).chg HCa.out (by omega)), HPa, Lib.hid ((HC7.out.thenBelow HB9.out).trans HCa.out (fun _ _ h => Or.inl h)), Lib.hid HL.out.1, rfl⟩
            case measure => have := HG.out; have := HL.out.2; have := next_lt hq2; omega
        · have hd1 : (q.e == 0) = false := by simp [he]
          have HTO := Lib.hid (tab_out HI.out hqi HT.out he)
          clear he
          go_wp2_with fail
          go_meet
          case rel => exact ⟨rows, _, _, q, HTS.out, HP.out, HC.out, tab_end HT.out hsA HB.out HTO.out.1 HTO.out.2.1 HTO.out.2.2⟩
  case rest =>
    clear HTS3 HP3 HG3
    obtain ⟨rows, rv, okR, q, hts, hp, hc, htp⟩ := hcut
    have HTS := Lib.hid hts
    have HP5 := Lib.hid hp
    have HG5 : Hid (Chg (fun k => k = g ∨ k = gc) w wc) := Lib.hid ((HG1.out.mono (T := fun k => k = g ∨ k = gc) (fun _ _ h => Or.inl h)).trans hc (fun _ _ h => h))
    have HS5 := Lib.hid (HS.out.chg (by decide) hc (fun k hk e => by omega))
    have HTP := Lib.hid htp
    have hrl := htp.2.1
    obtain ⟨RA, Rc, rfl, _, _, _⟩ := hts.own.sl (by omega)
    have hqi := hp.idx
    have HEND : Hid (Kept s (signF toks [59] q) ∧ (s.e = 0 → Ag toks (signF toks [59] q) (thenSign (hardQ x.doms kind (toks.drop s.i))) (fun c' => c' = ⟨kind, sc, rows, []⟩))) := Lib.hid ⟨(HPP.out.1.trans htp.1).trans (sign_kept _), fun h0 => ag_sign HT.out hqi (hard_tab hk6 hk2 HPP.out htp h0)⟩
    clear hts hp hc htp HG1 HS HD
    go_upto_region 9 with (go_at_call 86; refine (sign_r g _ toks q _ hv sv [59] HP5.out).mono ?_; rintro e V0 ⟨rfl, hp, hc⟩; (have HP9 := Lib.hid hp); (have HC6 := Lib.hid hc); clear hp hc)
    have HTS9 := Lib.hid (HTS.out.chg HC6.out (by omega))
    have HG9 : Hid (Chg (fun k => k = g ∨ k = gc) w V0) := Lib.hid (HG5.out.trans HC6.out (fun _ _ h => Or.inl h))
    have hsz9 := HC6.out.size
    have hsz5 := HG5.out.size
    have HS9a := Lib.hid (((HS5.out.chg (by decide) HC6.out (fun k hk e => by omega)).below (by decide) (Below.drew (Below.refl V0.heap.size V0))).mono (ok' := fun k => w.heap.size ≤ k ∧ k < (World.drew V0).heap.size) (fun k hk => ⟨hk.1, Nat.lt_trans hk.2 (show gc < V0.heap.size from lt_of_block HTS9.out.con)⟩))
    have HR9a := Lib.hid (((HTS9.out.own.sl (by omega)).below (by decide) (Below.drew (Below.refl V0.heap.size V0))).mono (ok' := fun k => w.heap.size ≤ k ∧ k < (World.drew V0).heap.size) (fun k hk => by
      rcases hk with hk | hk
      · have := HTS9.out.okr k hk; exact ⟨by omega, this.2⟩
      · have := HTS9.out.own.own k hk; exact ⟨by omega, this.2.1⟩))
    have HC9 := Lib.hid HTS9.out.con
    clear HTS HP5 HG5 HS5 HTS9 HC6
    have hszv := HG9.out.size
    have hs9' : PSt g (World.drew V0).heap.size (World.drew V0) x (.slice DA x.doms.length Dc) hv sv (fun k => ok k ∨ (w.heap.size ≤ k ∧ k < (World.drew V0).heap.size)) := (HST.out.chg HG9.out.drew (fun k hk => by omega)).fill hszv hgw
    have HKX := Lib.hid (show kCon.K (World.drew V0) (fun k => ok k ∨ (w.heap.size ≤ k ∧ k < (World.drew V0).heap.size)) ⟨kind, sc, rows, ([] : List Int)⟩ [.int .i64 kind, (.slice SA sc.length Sc), (.slice RA rows.length Rc), (.slice none 0 0)] from con_K (HS9a.out.mono fun _ h => Or.inr h) (HR9a.out.mono fun _ h => Or.inr h) ((sl_nil none 0).mono fun _ h => Or.inr h))
    obtain ⟨HA9, Hc9, hHv, _, _, _⟩ := hs9'.H.sl (by omega)
    subst hHv
    have HS9 := Lib.hid hs9'
    have hdr9 := Below.drew (Below.refl V0.heap.size V0)
    have HP10 := Lib.hid (HP9.out.below hdr9)
    have HG10 := Lib.hid HG9.out.drew
    have hc10 : ConAt gc (World.drew V0) kind (.slice SA sc.length Sc) (.slice RA rows.length Rc) (.slice none 0 0) := HC9.out
    have x1 := HP10.out.cellH
    have x2 : (World.drew V0).cell? ⟨gc, 0, none⟩ = some (.int .i64 kind) := cell_at hc10 (i := 0) rfl
    have x3 : (World.drew V0).cell? ⟨gc, 1, none⟩ = some ((.slice SA sc.length Sc)) := cell_at hc10 (i := 1) rfl
    have x4 : (World.drew V0).cell? ⟨gc, 2, none⟩ = some ((.slice RA rows.length Rc)) := cell_at hc10 (i := 2) rfl
    have x5 : (World.drew V0).cell? ⟨gc, 3, none⟩ = some ((.slice none 0 0)) := cell_at hc10 (i := 3) rfl
    have HC10 := Lib.hid hc10
    clear hc10 hs9' HP9 HG9 HC9 HST hdr9
    obtain ⟨iC, hiC, hC0, hC1, hC2⟩ := info_parts (show (Tryz.prog.info? 43).map (fun i => (i.zero, i.size, i.bytes)) = some (some (.agg #[.int .i64 0, .slice none 0 0, .slice none 0 0, .slice none 0 0]), 4, 80) by kernel_rfl)
    refine wp_region_lex (fun w' => w'.cell? ⟨g, 3, none⟩ = some (.slice HA9 x.hard.length Hc9) ∧ w'.cell? ⟨gc, 0, none⟩ = some (.int .i64 kind) ∧ w'.cell? ⟨gc, 1, none⟩ = some ((.slice SA sc.length Sc)) ∧ w'.cell? ⟨gc, 2, none⟩ = some ((.slice RA rows.length Rc)) ∧ w'.cell? ⟨gc, 3, none⟩ = some ((.slice none 0 0))) [true, true, true, true, true, true, true, false, false, false, false, false, false] (by kernel_rfl) (by kernel_rfl) (fun c a d v w h => by cases d <;> exact h) ?_
    change wpLex _ _ _ _ _ _ _ _ _ (World.drew V0)
    have hV : V0.heap.size ≤ (World.drew V0).heap.size := Nat.le_refl _
    generalize World.drew V0 = V at *
    repeat (first | (refine lex_take ⟨x1, x2, x3, x4, x5⟩ rfl (fun w' hw' => by (obtain ⟨y1, y2, y3, y4, y5⟩ := hw'; (try go_simp); try rfl)) (fun K hK => ?_); go_simp; refine hK _ _ ?_; clear hK K) | (refine lex_take_on _ _ _ _ ⟨x1, x2, x3, x4, x5⟩ rfl rfl rfl rfl (fun w' hw' => by (obtain ⟨y1, y2, y3, y4, y5⟩ := hw'; (try go_simp); try rfl)) (fun K hK => ?_); go_simp; refine hK _ _ ?_; clear hK K) | (refine lex_take_off _ _ _ _ _ ⟨x1, x2, x3, x4, x5⟩ rfl rfl rfl rfl rfl (fun K hK => ?_); go_simp; refine hK _ _ ?_; clear hK K))
    refine lex_step rfl (fun K hK => ?_)
    go_wp2_with fail
    have hal9 := below_alloc1 V (.cells #[.int .i64 kind, (.slice SA sc.length Sc), (.slice RA rows.length Rc), (.slice none 0 0)] 43)
    refine hK _ _ ⟨cell_kept hal9 x1, cell_kept hal9 x2, cell_kept hal9 x3, cell_kept hal9 x4, cell_kept hal9 x5⟩ ?_
    clear hK K hal9
    have HS11 := Lib.hid (HS9.out.chg (Chg.alloc0 V (.cells #[.int .i64 kind, (.slice SA sc.length Sc), (.slice RA rows.length Rc), (.slice none 0 0)] 43) (fun _ => False)) (fun _ h => h.elim))
    have HK11 := Lib.hid (kCon.chg HKX.out (Chg.alloc0 V (.cells #[.int .i64 kind, (.slice SA sc.length Sc), (.slice RA rows.length Rc), (.slice none 0 0)] 43) (fun _ => False)) (fun _ _ h => h))
    obtain ⟨css, hcs1, hcs2⟩ := HS11.out.H.open_
    have HCS1 := Lib.hid hcs1
    have HCS2 := Lib.hid hcs2
    have HHO := Lib.hid (fun k hk => HS9.out.H.own k hk)
    clear hcs1 hcs2
    refine lex_step rfl (fun K hK => ?_)
    refine wp_append_lies _ _ _ 23 rfl (g + 1) 43 iC _ 4 80 Tryz.underlying23 hiC hC0 hC1 hC2 rfl (by decide) (.slice HA9 x.hard.length Hc9) x.hard.length css.flatten rfl HCS2.out ⟨_, 0, none⟩ 1 1 [.int .i64 kind, (.slice SA sc.length Sc), (.slice RA rows.length Rc), (.slice none 0 0)] rfl rfl (World.news_of_block (cs := #[.int .i64 kind, (.slice SA sc.length Sc), (.slice RA rows.length Rc), (.slice none 0 0)]) (t := 43) (fr := (0, 0)) (heap_alloc_new V _)) (by simp [Value.oneCell']) (by decide) (by simp only [maxLen]; omega) (by omega) (by simp; omega) (V.heap.size + 1) (by simp) ?_
    intro kb cap V3 hown hgrow hat hlt
    have hF3 : Chg (fun k => (Value.slice HA9 x.hard.length Hc9).ownBlock = some k) V V3 := (Chg.alloc0 V _ _).trans (chg_of_grown hgrow) (fun _ _ h => h)
    have HS12 := Lib.hid (HS11.out.addH (by simp) HCS1.out HK11.out hgrow hown (hat_of hat (by simp)))
    have HP12 := Lib.hid (HP10.out.chg hF3 (fun k hk e => by have := (HHO.out k e).1; omega))
    have hc12 : ConAt gc V3 kind (.slice SA sc.length Sc) (.slice RA rows.length Rc) (.slice none 0 0) := hF3.heap HC10.out (fun e => (HHO.out _ e).2.2 (Or.inr ⟨by omega, by have := lt_of_block HC10.out; omega⟩))
    have y1 := HP12.out.cellH
    have yf := HP12.out.froz 3
    have y2 : V3.cell? ⟨gc, 0, none⟩ = some (.int .i64 kind) := cell_at hc12 (i := 0) rfl
    have y3 : V3.cell? ⟨gc, 1, none⟩ = some ((.slice SA sc.length Sc)) := cell_at hc12 (i := 1) rfl
    have y4 : V3.cell? ⟨gc, 2, none⟩ = some ((.slice RA rows.length Rc)) := cell_at hc12 (i := 2) rfl
    have y5 : V3.cell? ⟨gc, 3, none⟩ = some ((.slice none 0 0)) := cell_at hc12 (i := 3) rfl
    have HG12 := Lib.hid ((HG10.out.mono (fun j _ h => (by omega : g ≤ j))).trans hF3 (fun j hj e => by have := (HHO.out j e).1; omega))
    clear hown hgrow hat hF3 hc12
    refine hK _ _ ⟨y1, y2, y3, y4, y5⟩ ?_
    clear hK K
    refine lex_list _ _ _ _ _ rfl (by kernel_rfl) ?_
    go_wp2
    go_end0
    refine ⟨⟨kind, sc, rows, ([] : List Int)⟩, _, rfl, ⟨_, _, sv, _, HP12.out.setH _, (HS12.out.chg (chg_setCell V3 g 3 _) (fun k hk => by omega)).later (by rw [Go.Deep.nblk_setCell]; exact Nat.le_refl _)⟩, ?_, HEND.out.1, HEND.out.2⟩
    exact (HG12.out.trans (chg_setCell V3 g 3 _) (fun j _ e => by omega)).below (fun k hk e => by omega) (by omega)
end Go.Proofs.YtoahaigfjfeopaaGreatDoor

/- What the reference's parser computes: linear constraints. No program, no memory. -/
namespace Go.Proofs.YtoahaigfjfeopaaGreatDoor

/-- The multiplier of a term; then its variable. -/
def multF (toks : List Tok) (s : RS) : RS := if (tkF toks s).n = 0 then failF toks s.i 4 (numberF toks 1000000 s) else numberF toks 1000000 s
def termF (toks : List Tok) (nd : Nat) (scope : List Int) (s : RS) : RS := if (multF toks s).e = 0 then variableF toks nd scope (multF toks s) else multF toks s
def termS (toks : List Tok) (scope : List Int) (s : RS) : List Int := if (multF toks s).e = 0 then scope ++ [(tkF toks (multF toks s)).n] else scope
section
variable {toks : List Tok} {s s0 : RS} {nd : Nat} {args scope : List Int}
theorem mult_i (hi : s.i < toks.length) : (multF toks s).i < toks.length := by
  have h := number_i (toks := toks) (s := s) 1000000 hi
  unfold multF
  split
  · rw [fail_i]; exact h
  · exact h
theorem mult_kept : Kept s (multF toks s) := by
  unfold multF
  split
  · exact (number_kept _).trans (fail_kept _ _)
  · exact number_kept _
theorem term_i (hi : s.i < toks.length) : (termF toks nd scope s).i < toks.length := by
  unfold termF
  split
  · exact variable_i _ _ (mult_i hi)
  · exact mult_i hi
theorem term_kept : Kept s (termF toks nd scope s) := by
  unfold termF
  split
  · exact mult_kept.trans (variable_kept _ _)
  · exact mult_kept
theorem term_law (hT : TokR toks) (hi : s.i < toks.length) (he : s.e = 0) (h6 : scope.length ≤ 6) (n : Nat) :
    ((termF toks nd scope s).e = 0 → scope.length < 6 ∧ s.i < (termF toks nd scope s).i ∧ termsQ nd (n + 1) args scope (toks.drop s.i) = if (isQ [44] (toks.drop (termF toks nd scope s).i)).1 then termsQ nd n (args ++ [(tkF toks s).n]) (termS toks scope s) (isQ [44] (toks.drop (termF toks nd scope s).i)).2 else .ok ((args ++ [(tkF toks s).n], termS toks scope s), toks.drop (termF toks nd scope s).i)) ∧
    ((termF toks nd scope s).e ≠ 0 → termsQ nd (n + 1) args scope (toks.drop s.i) = .error ((termF toks nd scope s).a, (termF toks nd scope s).e)) := by
  have hn := number_law hT hi he 1000000
  rw [termsQ]
  cases hq : numberQ 1000000 (toks.drop s.i) with
  | error p =>
    obtain ⟨p, x⟩ := p
    rw [hq] at hn
    obtain ⟨h1, h2, h3⟩ := hn
    have hne : (numberF toks 1000000 s).e ≠ 0 := by rw [h2]; exact h3
    have e1 : multF toks s = numberF toks 1000000 s := by unfold multF; rw [fail_no _ _ hne]; split <;> rfl
    have e2 : termF toks nd scope s = numberF toks 1000000 s := by unfold termF; rw [e1, if_neg hne]
    rw [e2]
    exact ⟨fun h => absurd h hne, fun _ => by rw [h1, h2]⟩
  | ok p =>
    obtain ⟨t, r⟩ := p
    rw [hq] at hn
    obtain ⟨h1, rfl, rfl, hi2, hk, hm⟩ := hn
    have hgo := number_good hT hi hk hm
    simp only
    by_cases h0 : (tkF toks s).n = 0
    · have e1 : multF toks s = ⟨(numberF toks 1000000 s).i, (tkF toks s).at_, 4⟩ := by unfold multF; rw [if_pos h0, fail_ok _ _ h1]; rfl
      have e2 : termF toks nd scope s = ⟨(numberF toks 1000000 s).i, (tkF toks s).at_, 4⟩ := by unfold termF; rw [e1, if_neg (show ¬ (4 : Int) = 0 by decide)]
      rw [if_pos h0, e2]
      exact ⟨fun h => absurd h (show (4 : Int) ≠ 0 by decide), fun _ => rfl⟩
    · have e1 : multF toks s = numberF toks 1000000 s := by unfold multF; rw [if_neg h0]
      have e2 : termF toks nd scope s = variableF toks nd scope (numberF toks 1000000 s) := by unfold termF; rw [e1, if_pos h1]
      have e3 : termS toks scope s = scope ++ [(tkF toks (numberF toks 1000000 s)).n] := by unfold termS; rw [e1, if_pos h1]
      have hv := variable_law hT (number_i 1000000 hi) h1 nd scope h6
      rw [if_neg h0, e2, e3]
      cases hq2 : varQ nd scope (toks.drop (numberF toks 1000000 s).i) with
      | error p =>
        obtain ⟨p, x⟩ := p
        rw [hq2] at hv
        exact ⟨fun h => absurd (hv.2.1.symm.trans h) hv.2.2, fun _ => by rw [hv.1, hv.2.1]⟩
      | ok p =>
        obtain ⟨l', r'⟩ := p
        rw [hq2] at hv
        obtain ⟨k1, rfl, rfl, k2, k3, _⟩ := hv
        exact ⟨fun _ => ⟨k3, by omega, rfl⟩, fun h => absurd k1 h⟩
theorem termS_len : (termS toks scope s).length ≤ scope.length + 1 := by
  unfold termS; split <;> simp
/-- Ahead of a round of a linear constraint. -/
structure LinI (toks : List Tok) (nd : Nat) (s0 : RS) (args scope : List Int) (s : RS) : Prop where
  kept : Kept s0 s
  len : args.length ≤ s.i ∧ scope.length ≤ s.i
  good : s.e = 0 → scope.length ≤ 6 ∧ ∃ n, toks.length - s.i < n ∧ termsQ nd ((toks.drop s0.i).length + 1) [] [] (toks.drop s0.i) = termsQ nd n args scope (toks.drop s.i)
  bad : s0.e = 0 → s.e ≠ 0 → termsQ nd ((toks.drop s0.i).length + 1) [] [] (toks.drop s0.i) = .error (s.a, s.e)
theorem lin_first : LinI toks nd s0 [] [] s0 := ⟨Kept.refl _, ⟨Nat.zero_le _, Nat.zero_le _⟩, fun _ => ⟨by simp, _, by rw [List.length_drop]; omega, rfl⟩, fun h h' => absurd h h'⟩
/-- What the terms are, at the end. -/
def TermP (toks : List Tok) (nd : Nat) (s0 : RS) (args scope : List Int) (s : RS) : Prop :=
  Kept s0 s ∧ args.length ≤ 200000 ∧ scope.length ≤ 200000 ∧ (s0.e = 0 → Ag toks s (termsQ nd ((toks.drop s0.i).length + 1) [] [] (toks.drop s0.i)) (fun r => r = (args, scope)))
theorem lin_out (hT : TokR toks) (h : LinI toks nd s0 args scope s) (hi : s.i < toks.length) (he : s.e ≠ 0) : TermP toks nd s0 args scope s :=
  ⟨h.kept, by have := h.len; have := hT.len; omega, by have := h.len; have := hT.len; omega, fun h0 => by rw [h.bad h0 he]; exact ⟨rfl, rfl, he⟩⟩
theorem lin_last (hT : TokR toks) (hi : s.i < toks.length) (h : LinI toks nd s0 args scope s) (he : s.e = 0) (hm : isF toks [44] (termF toks nd scope s) = false) : TermP toks nd s0 (args ++ [(tkF toks s).n]) (termS toks scope s) (termF toks nd scope s) := by
  obtain ⟨h6, n, hn, hq⟩ := h.good he
  obtain ⟨n, rfl⟩ : ∃ m, n = m + 1 := ⟨n - 1, by omega⟩
  have hl := term_law (args := args) (nd := nd) hT hi he h6 n
  have hti := term_i (nd := nd) (scope := scope) hi
  have hlen := h.len
  have hsl := termS_len (toks := toks) (scope := scope) (s := s)
  have htl := hT.len
  refine ⟨h.kept.trans term_kept, by simp; omega, by omega, fun h0 => ?_⟩
  by_cases he2 : (termF toks nd scope s).e = 0
  · rw [hq, (hl.1 he2).2.2]
    rw [is_eq hT hti (by simp)] at hm
    rw [drop_tk hti, isQ]
    simp only [hm]
    exact ⟨he2, (drop_tk hti).symm, rfl⟩
  · rw [hq, hl.2 he2]
    exact ⟨rfl, rfl, he2⟩
theorem mult_le (h0 : (termF toks nd scope s).e ≠ 0) (hm : s.i < toks.length) : s.i ≤ (termF toks nd scope s).i := term_kept.1
theorem lin_step (hT : TokR toks) (hi : s.i < toks.length) (h : LinI toks nd s0 args scope s) (he : s.e = 0) (hm : isF toks [44] (termF toks nd scope s) = true) : LinI toks nd s0 (args ++ [(tkF toks s).n]) (termS toks scope s) (nextF toks (termF toks nd scope s)) ∧ s.i < (nextF toks (termF toks nd scope s)).i := by
  obtain ⟨h6, n, hn, hq⟩ := h.good he
  obtain ⟨n, rfl⟩ : ∃ m, n = m + 1 := ⟨n - 1, by omega⟩
  have hl := term_law (args := args) (nd := nd) hT hi he h6 n
  have hti := term_i (nd := nd) (scope := scope) hi
  have hlen := h.len
  have hsl := termS_len (toks := toks) (scope := scope) (s := s)
  have hle := (term_kept (toks := toks) (nd := nd) (scope := scope) (s := s)).1
  rw [is_eq hT hti (by simp)] at hm
  have h4 : (tkF toks (termF toks nd scope s)).kind ≠ 4 := by intro h4; simp [isP, h4] at hm
  have hadv := next_adv hT hti h4
  have hk : Kept s0 ⟨(termF toks nd scope s).i + 1, (termF toks nd scope s).a, (termF toks nd scope s).e⟩ := (h.kept.trans (term_kept (nd := nd) (scope := scope))).trans (by rw [← hadv.1]; exact next_kept)
  rw [hadv.1]
  refine ⟨⟨hk, ⟨by simp; omega, by simp only; omega⟩, fun he2 => ?_, fun h0 he2 => ?_⟩, by simp only; omega⟩
  · have he2 : (termF toks nd scope s).e = 0 := he2
    obtain ⟨k1, k2, k3⟩ := hl.1 he2
    refine ⟨by omega, n, by simp only; omega, ?_⟩
    rw [hq, k3, drop_tk hti, isQ]
    simp only [hm]
    rfl
  · have he2 : (termF toks nd scope s).e ≠ 0 := he2
    rw [hq, hl.2 he2]
/-! ### How the sum is held against a number -/
def wordH (n : Nat) : List UInt8 := nth [] howsT n
def howF (toks : List Tok) (s : RS) : Nat := if isF toks [108, 101] s = true then 1 else if isF toks [110, 101] s = true then 2 else 0
theorem how_lt : howF toks s < 3 := by unfold howF; split; decide; split <;> decide
theorem isP_word (hT : TokR toks) (hi : s.i < toks.length) {str : List UInt8} (hs : 2 ≤ str.length) (h : isP (tkF toks s) str = true) : (tkF toks s).kind = 1 ∧ (tkF toks s).text = str := by
  simp only [isP, Bool.and_eq_true, Bool.or_eq_true, beq_iff_eq, decide_eq_true_eq] at h
  refine ⟨?_, h.2⟩
  rcases h.1 with h1 | h1
  · exact h1
  · have := hT.sgn _ (tk_mem hi) h1
    rw [h.2] at this; omega
theorem how_law (hT : TokR toks) (hi : s.i < toks.length) :
    (isF toks (wordH (howF toks s)) s = true → (tkF toks s).kind = 1 ∧ wordFrom (tkF toks s).text 0 howsT = howF toks s) ∧
    (isF toks (wordH (howF toks s)) s = false → ¬ ((tkF toks s).kind = 1 ∧ 0 ≤ wordFrom (tkF toks s).text 0 howsT)) := by
  have e1 : isF toks [108, 101] s = isP (tkF toks s) [108, 101] := is_eq hT hi (by simp)
  have e2 : isF toks [110, 101] s = isP (tkF toks s) [110, 101] := is_eq hT hi (by simp)
  have e0 : isF toks [101, 113] s = isP (tkF toks s) [101, 113] := is_eq hT hi (by simp)
  by_cases h1 : isP (tkF toks s) [108, 101] = true
  · have hh : howF toks s = 1 := by unfold howF; rw [e1, if_pos h1]
    obtain ⟨k1, k2⟩ := isP_word hT hi (by decide) h1
    rw [hh]
    refine ⟨fun _ => ⟨k1, by rw [k2]; decide⟩, fun h => ?_⟩
    have h : isF toks [108, 101] s = false := h
    rw [e1, h1] at h; cases h
  · by_cases h2 : isP (tkF toks s) [110, 101] = true
    · have hh : howF toks s = 2 := by unfold howF; rw [e1, if_neg h1, e2, if_pos h2]
      obtain ⟨k1, k2⟩ := isP_word hT hi (by decide) h2
      rw [hh]
      refine ⟨fun _ => ⟨k1, by rw [k2]; decide⟩, fun h => ?_⟩
      have h : isF toks [110, 101] s = false := h
      rw [e2, h2] at h; cases h
    · have hh : howF toks s = 0 := by unfold howF; rw [e1, if_neg h1, e2, if_neg h2]
      rw [hh]
      refine ⟨fun h => ?_, fun h => ?_⟩
      · have h : isF toks [101, 113] s = true := h
        rw [e0] at h
        obtain ⟨k1, k2⟩ := isP_word hT hi (by decide) h
        exact ⟨k1, by rw [k2]; decide⟩
      · have h : isF toks [101, 113] s = false := h
        rw [e0] at h
        rintro ⟨k1, k2⟩
        have hno : ∀ str : List UInt8, isP (tkF toks s) str = false → (tkF toks s).text ≠ str := fun str hs ht => by
          rw [isP, k1, ht] at hs; simp at hs
        have n0 := hno _ h
        have n1 := hno _ (Bool.eq_false_iff.2 h1)
        have n2 := hno _ (Bool.eq_false_iff.2 h2)
        simp only [howsT, wordFrom] at k2
        rw [if_neg (Ne.symm n0), if_neg (Ne.symm n1), if_neg (Ne.symm n2)] at k2
        exact absurd k2 (by decide)
/-- What is behind the terms. -/
def sumF (toks : List Tok) (s4 : RS) : RS := signF toks (wordH (howF toks s4)) s4
def endF (toks : List Tok) (s5 : RS) : RS := if s5.e = 0 then numberF toks 1000000 s5 else s5
def endA (toks : List Tok) (how : Nat) (args : List Int) (s5 : RS) : List Int := if s5.e = 0 then args ++ [(how : Int), (tkF toks s5).n] else args
theorem word_ne (n : Nat) (h : n < 3) : wordH n ≠ [] := by
  match n, h with
  | 0, _ | 1, _ | 2, _ => decide
theorem linear_law (hT : TokR toks) (hi : s.i < toks.length) (h : TermP toks nd s0 args scope s) (h0 : s0.e = 0) :
    Ag toks (endF toks (sumF toks (signF toks [58] s))) (linearQ nd (toks.drop s0.i)) (fun r => r = (endA toks (howF toks (signF toks [58] s)) args (sumF toks (signF toks [58] s)), scope)) := by
  have ha := h.2.2.2 h0
  have hi4 := sign_i (toks := toks) [58] hi
  have hi5 : (sumF toks (signF toks [58] s)).i < toks.length := sign_i _ hi4
  have hk4 := sign_kept (toks := toks) (s := s) [58]
  have hk5 : Kept (signF toks [58] s) (sumF toks (signF toks [58] s)) := sign_kept _
  have hend : ∀ s5 : RS, s5.e ≠ 0 → endF toks s5 = s5 := fun s5 h => by unfold endF; rw [if_neg h]
  rw [linearQ]
  by_cases he : s.e = 0
  · obtain ⟨v, hv, rfl⟩ := ag_good ha he
    rw [hv]
    simp only
    have hs := sign_law hT hi he (str := [58]) (by simp)
    by_cases he4 : (signF toks [58] s).e = 0
    · obtain ⟨v, hv, _⟩ := ag_good hs he4
      rw [hv]
      simp only
      have hq : nextQ (toks.drop (signF toks [58] s).i) = (tkF toks (signF toks [58] s), if (tkF toks (signF toks [58] s)).kind = 4 then toks.drop (signF toks [58] s).i else toks.drop ((signF toks [58] s).i + 1)) := by
        rw [drop_tk hi4, nextQ]
      rw [hq]
      simp only
      have hw := how_law hT hi4
      generalize signF toks [58] s = s4 at *
      cases hf : isF toks (wordH (howF toks s4)) s4 with
      | true =>
        obtain ⟨k1, k2⟩ := hw.1 hf
        have h4 : (tkF toks s4).kind ≠ 4 := by rw [k1]; decide
        have hadv := next_adv hT hi4 h4
        have e5 : sumF toks s4 = ⟨s4.i + 1, s4.a, s4.e⟩ := by unfold sumF signF; rw [if_pos hf, hadv.1]
        rw [if_pos ⟨k1, by rw [k2]; omega⟩, if_neg h4, k2]
        have he5 : (sumF toks s4).e = 0 := by rw [e5]; exact he4
        have hi5' : (sumF toks s4).i = s4.i + 1 := by rw [e5]
        have hn := number_law hT hi5 he5 1000000
        rw [hi5'] at hn
        have ee : endF toks (sumF toks s4) = numberF toks 1000000 (sumF toks s4) := by unfold endF; rw [if_pos he5]
        have ea : endA toks (howF toks s4) args (sumF toks s4) = args ++ [(howF toks s4 : Int), (tkF toks (sumF toks s4)).n] := by unfold endA; rw [if_pos he5]
        rw [ee, ea]
        cases hq2 : numberQ 1000000 (toks.drop (s4.i + 1)) with
        | error p => rw [hq2] at hn; exact hn
        | ok p =>
          obtain ⟨u, r⟩ := p
          rw [hq2] at hn
          obtain ⟨m1, m2, rfl, _⟩ := hn
          exact ⟨m1, m2, rfl⟩
      | false =>
        have e5 : sumF toks s4 = nextF toks (failF toks s4.i 3 s4) := by unfold sumF signF; rw [if_neg (by rw [hf]; decide)]
        have m1 : (sumF toks s4).a = (tkF toks s4).at_ := by rw [e5, next_a, fail_ok _ _ he4]; rfl
        have m2 : (sumF toks s4).e = 3 := by rw [e5, next_e, fail_ok _ _ he4]
        rw [if_neg (hw.2 hf), hend _ (by rw [m2]; decide)]
        exact ⟨m1, m2, by decide⟩
    · rw [ag_bad hs he4]
      have h5 := hk5.2 he4
      have h5n : (sumF toks (signF toks [58] s)).e ≠ 0 := by rw [h5.2]; exact he4
      simp only
      rw [hend _ h5n]
      exact ⟨h5.1, h5.2, he4⟩
  · rw [ag_bad ha he]
    have h4 := hk4.2 he
    have h4n : (signF toks [58] s).e ≠ 0 := by rw [h4.2]; exact he
    have h5 := hk5.2 h4n
    have h5n : (sumF toks (signF toks [58] s)).e ≠ 0 := by rw [h5.2]; exact h4n
    simp only
    rw [hend _ h5n]
    exact ⟨h5.1.trans h4.1, h5.2.trans h4.2, he⟩
theorem endF_i (hi : s.i < toks.length) : (endF toks s).i < toks.length := by
  unfold endF; split
  · exact number_i _ hi
  · exact hi
theorem endF_kept : Kept s (endF toks s) := by
  unfold endF; split
  · exact number_kept _
  · exact Kept.refl _
theorem hard_lin {doms : List (List Int)} {s6 : RS} (h : Ag toks s6 (linearQ doms.length (toks.drop s0.i)) (fun r => r = (args, scope))) : Ag toks s6 (hardQ doms 6 (toks.drop s0.i)) (fun c => c = ⟨6, scope, [], args⟩) := by
  rw [hardQ, if_pos rfl]
  by_cases he : s6.e = 0
  · obtain ⟨v, hv, rfl⟩ := ag_good h he
    rw [hv]
    exact ⟨he, rfl, rfl⟩
  · rw [ag_bad h he]
    exact ⟨rfl, rfl, he⟩
end
end Go.Proofs.YtoahaigfjfeopaaGreatDoor

/- arboristref06.parser: linear. -/
namespace Go.Proofs.YtoahaigfjfeopaaGreatDoor
open Go.RowKit
attribute [local irreducible] wpStill wpLex wpLexO wpPlan Calls

/-- A linear constraint in its box, its rows of the call's own. -/
structure LinS (gc : Nat) (w : World) (vs va : Value) (args scope : List Int) : Prop where
  con : ConAt gc w 6 vs (.slice none 0 0) va
  own1 : OwnI (gc + 1) vs scope w
  own2 : OwnI (gc + 1) va args w
  apart : ∀ k, vs.ownBlock = some k → va.ownBlock ≠ some k
theorem LinS.chg {gc : Nat} {S : Nat → Prop} {a b : World} {vs va : Value} {args scope : List Int} (h : LinS gc a vs va args scope) (hc : Chg S a b) (hs : ∀ k, S k → k < gc) : LinS gc b vs va args scope :=
  ⟨hc.heap h.con (fun e => by have := hs _ e; omega), h.own1.chg hc (fun k hk e => by have := hs _ e; have := (h.own1.lt k hk).1; omega), h.own2.chg hc (fun k hk e => by have := hs _ e; have := (h.own2.lt k hk).1; omega), h.apart⟩
theorem LinS.below {gc : Nat} {a b : World} {vs va : Value} {args scope : List Int} (h : LinS gc a vs va args scope) (hb : Below a.heap.size a b) : LinS gc b vs va args scope :=
  ⟨block_kept hb h.con, h.own1.chg (chg_of_below hb (fun _ => False)) (fun _ _ h => h), h.own2.chg (chg_of_below hb (fun _ => False)) (fun _ _ h => h), h.apart⟩
/-- More arguments. -/
theorem LinS.args {gc : Nat} {w b : World} {vs va v : Value} {args scope ys : List Int} (h : LinS gc w vs va args scope) (hg : w.grownBy b va.ownBlock) (ho : OwnI (gc + 1) v (args ++ ys) b) (ha : v.ownBlock = va.ownBlock ∨ ∃ k, v.ownBlock = some k ∧ w.heap.size ≤ k) : LinS gc (b.setCell ⟨gc, 3, none⟩ v) vs v (args ++ ys) scope := by
  have hc := chg_of_grown hg
  have h1 := hc.heap h.con (fun e => by have := (h.own2.lt gc e).1; omega)
  refine ⟨by unfold ConAt; simp [World.setCell, Array.getElem?_modify, h1], (h.own1.chg hc (fun k hk e => h.apart k hk e)).chg (chg_setCell b gc 3 v) (fun k hk e => by have := (h.own1.lt k hk).1; omega), ho.chg (chg_setCell b gc 3 v) (fun k hk e => by have := (ho.lt k hk).1; omega), fun k hk e => ?_⟩
  rcases ha with ha | ⟨k', ha, hk'⟩
  · exact h.apart k hk (ha ▸ e)
  · rw [ha] at e; injection e with e; have := (h.own1.lt k hk).2; omega
/-- A variable more. -/
theorem LinS.var {g gc : Nat} {w b : World} {vs va v : Value} {args scope scope' : List Int} (h : LinS gc w vs va args scope) (hg : g < gc) (hc : Chg (fun k => k = g ∨ vs.ownBlock = some k) w b) (ho : OwnI (gc + 1) v scope' b) (ha : v.ownBlock = vs.ownBlock ∨ ∃ k, v.ownBlock = some k ∧ w.heap.size ≤ k) : LinS gc (b.setCell ⟨gc, 1, none⟩ v) v va args scope' := by
  have h1 := hc.heap h.con (fun e => by rcases e with e | e; omega; have := (h.own1.lt gc e).1; omega)
  refine ⟨by unfold ConAt; simp [World.setCell, Array.getElem?_modify, h1], ho.chg (chg_setCell b gc 1 v) (fun k hk e => by have := (ho.lt k hk).1; omega), (h.own2.chg hc (fun k hk e => by rcases e with e | e; have := (h.own2.lt k hk).1; omega; exact h.apart k e hk)).chg (chg_setCell b gc 1 v) (fun k hk e => by have := (h.own2.lt k hk).1; omega), fun k hk e => ?_⟩
  rcases ha with ha | ⟨k', ha, hk'⟩
  · exact h.apart k (ha ▸ hk) e
  · rw [ha] at hk; injection hk with hk; have := (h.own2.lt k e).2; omega
def LnRel (g gc : Nat) (w : World) (toks : List Tok) (nd : Nat) (s0 : RS) (dv hv sv : Value) (gm : Nat) (wr : World) : Prop :=
  ∃ (args scope : List Int) (vs va : Value) (s : RS), Hid (LinS gc wr vs va args scope) ∧ Hid (RB g wr toks s dv hv sv) ∧ Hid (Chg (fun k => k = g ∨ k = gc) w wr) ∧ Hid (LinI toks nd s0 args scope s) ∧ gm = toks.length - s.i
def LnMid (g gc : Nat) (w : World) (toks : List Tok) (nd : Nat) (s0 : RS) (dv hv sv : Value) (wx : World) : Prop :=
  ∃ (args scope : List Int) (vs va : Value) (s : RS), LinS gc wx vs va args scope ∧ RB g wx toks s dv hv sv ∧ Chg (fun k => k = g ∨ k = gc) w wx ∧ TermP toks nd s0 args scope s
set_option maxRecDepth 100000 in
set_option maxHeartbeats 8000000 in
theorem linear_r (g : Nat) (w : World) (toks : List Tok) (s : RS) (x : Ins) (hT : TokR toks) (h : RAll g w toks s x) (hx : x.hard.length ≤ 1000) (hd : x.doms.length ≤ 1000) :
    Calls Tryz.prog 84 #[.pointer (some ⟨g, 0, none⟩)] w fun e w' => ConR g w w' toks s x 6 e := by
  obtain ⟨dv, hv, sv, ok, h, hst⟩ := h
  have hgw := h.lt
  have HT := Lib.hid hT
  have HST := Lib.hid hst
  have hD0 := hst.D.sl (by omega)
  obtain ⟨DA, Dc, rfl, _, _, _⟩ := hD0
  have hal := below_alloc1 w (.cells #[.int .i64 6, .slice none 0 0, .slice none 0 0, .slice none 0 0] 43)
  have HL0 : Hid (LinS w.heap.size (w.alloc (.cells #[.int .i64 6, .slice none 0 0, .slice none 0 0, .slice none 0 0] 43)) (.slice none 0 0) (.slice none 0 0) [] []) := Lib.hid ⟨heap_alloc_new w _, World.ownsRow_nil _ _ _ _, World.ownsRow_nil _ _ _ _, fun k h => by simp [Value.ownBlock] at h⟩
  have HP0 := Lib.hid (h.below hal)
  have HG1 : Hid (Chg (fun k => k = g) w (w.alloc (.cells #[.int .i64 6, .slice none 0 0, .slice none 0 0, .slice none 0 0] 43))) := Lib.hid (chg_of_below hal _)
  have hgb : (w.alloc (.cells #[.int .i64 6, .slice none 0 0, .slice none 0 0, .slice none 0 0] 43)).heap.size = w.heap.size + 1 := by simp
  have hsi := h.idx
  obtain ⟨i0, hi0, hz0, hz1, hz2⟩ := info_parts (show (Tryz.prog.info? 3).map (fun i => (i.zero, i.size, i.bytes)) = some (some (.int .i64 0), 1, 8) by kernel_rfl)
  clear h hT hst hal
  go_enter Tryz.func84, Tryz.ntmps84
  go_upto_block 0 with fail
  generalize hgc : w.heap.size = gc at HL0 hgb ⊢
  have hgw' : g < gc := by omega
  generalize w.alloc (.cells #[.int .i64 6, .slice none 0 0, .slice none 0 0, .slice none 0 0] 43) = Wb at *
  go_cut [3, 4, 5] from 10 to 47 (fun _ _ _ wx => LnMid g gc Wb toks x.doms.length s (.slice DA x.doms.length Dc) hv sv wx)
  case first =>
    go_wp2_with fail
    go_loopg [3, 4, 5] (toks.length - s.i) (fun gm _ _ _ wr => LnRel g gc Wb toks x.doms.length s (.slice DA x.doms.length Dc) hv sv gm wr)
    case atStart => exact ⟨[], [], _, _, s, HL0, HP0, Lib.hid (Chg.refl _ _), Lib.hid lin_first, rfl⟩
    case round =>
      clear HL0 HP0 HG1 HST
      obtain ⟨args, scope, vs, va, q, HL, HP, HC, HI, hg⟩ := hrel
      have HG := Lib.hid hg
      have p6 := HP.out.cell6
      have p1 := HP.out.cell1
      have hqi := HP.out.idx
      have hle := HI.out.len
      have hTl := HT.out.len
      have hbs := HC.out.size
      obtain ⟨AA, Ac, rfl, _, _, _⟩ := HL.out.own2.sl (by omega)
      obtain ⟨SA, Sc, rfl, _, _, _⟩ := HL.out.own1.sl (by omega)
      clear hg
      by_cases he : q.e = 0
      · have hd1 : (q.e == 0) = true := by simp [he]
        have HE := Lib.hid he
        obtain ⟨tn, htn⟩ : ∃ tn, (tkF toks q).n = tn := ⟨_, rfl⟩
        have HTN := Lib.hid htn
        have h6 := (HI.out.good he).1
        clear he htn
        by_cases h0 : tn = 0
        · have hd0 : (tn == 0) = true := by simp [h0]
          have HMF : Hid (multF toks q = failF toks q.i 4 (numberF toks 1000000 q)) := Lib.hid (by unfold multF; rw [if_pos (by rw [HTN.out, h0])])
          have HMN : Hid ((failF toks q.i 4 (numberF toks 1000000 q)).e ≠ 0) := Lib.hid (by unfold failF; split; exact (show (4 : Int) ≠ 0 by decide); assumption)
          clear h0
          have HTS : Hid (termS toks scope q = scope) := Lib.hid (by unfold termS; rw [if_neg (by rw [HMF.out]; exact HMN.out)])
          have HTF : Hid (termF toks x.doms.length scope q = multF toks q) := Lib.hid (by unfold termF; rw [if_neg (by rw [HMF.out]; exact HMN.out)])
          have hd2 : ((failF toks q.i 4 (numberF toks 1000000 q)).e == 0) = false := by simpa using HMN.out
          go_wp2_with (first
            | (go_at_call 108; refine (number_r g _ toks q _ hv sv 1000000 (by decide) (by decide) HP.out).mono ?_; rw [HTN.out]; rintro e W1 ⟨rfl, hp, hc⟩; (have HP2 := Lib.hid hp); (have HL2 := Lib.hid (HL.out.chg hc (by omega))); (have HG2 : Hid (Chg (fun k => k = g ∨ k = gc) Wb W1) := Lib.hid (HC.out.trans hc (fun _ _ h => Or.inl h))); (have y3 : W1.cell? ⟨gc, 3, none⟩ = some (.slice AA args.length Ac) := cell_at HL2.out.con (i := 3) rfl); clear hp hc)
            | (go_at_call 80; refine (fail_r g _ toks _ _ hv sv q.i 4 HP2.out hqi).mono ?_; rintro e W1 ⟨rfl, hp, hc⟩; (have HP2 := Lib.hid hp); (have HL2 := Lib.hid (HL2.out.chg hc (by omega))); (have HG2 : Hid (Chg (fun k => k = g ∨ k = gc) Wb W1) := Lib.hid (HG2.out.trans hc (fun _ _ h => Or.inl h))); (have y3 : W1.cell? ⟨gc, 3, none⟩ = some (.slice AA args.length Ac) := cell_at HL2.out.con (i := 3) rfl); clear hp hc)
            | (at_builtin; refine wpList_append_own_at _ rfl _ _ 41 rfl (gc + 1) 3 i0 _ 1 8 Tryz.underlying41 hi0 hz0 hz1 hz2 rfl (by decide) _ args.length (args.map (Value.int .i64)) rfl (HL2.out.own2.alloc _) ⟨_, 0, none⟩ 1 1 [.int .i64 tn] rfl rfl ?c1 ?c2 ?c3 ?c4 ?c5 ?_))
          case c1 => exact World.news_of_block (cs := #[.int .i64 tn]) (t := 3) (fr := (0, 0)) (heap_alloc_new _ _)
          case c2 => simp [Value.oneCell']
          case c3 => (try simp only [maxLen]); (try simp); try omega
          case c4 => (try simp); try omega
          case c5 => have := HG2.out.size; simp; omega
          intro v' w2 hown' hgrow _ hat
          have HO3 : Hid (OwnI (gc + 1) v' (args ++ [tn]) w2) := Lib.hid (by unfold OwnI; simpa using hown')
          obtain ⟨BA, Bc, hv3, _, _, _⟩ := HO3.out.sl (by simp; omega)
          generalize (args ++ [tn]).length = m at hv3
          subst hv3
          have HL3 := Lib.hid ((HL2.out.below (below_alloc1 W1 (.cells #[.int .i64 tn] 3))).args (ys := [tn]) hgrow HO3.out (hat.imp id fun h => ⟨_, h, by simp⟩))
          have HP3 := Lib.hid (((HP2.out.below (below_alloc1 W1 (.cells #[.int .i64 tn] 3))).chg (chg_of_grown hgrow) (fun k hk e => by have := (HL2.out.own2.lt k e).1; omega)).chg (chg_setCell w2 gc 3 (.slice BA m Bc)) (fun k hk e => by omega))
          have HG3 : Hid (Chg (fun k => k = g ∨ k = gc) Wb (w2.setCell ⟨gc, 3, none⟩ (.slice BA m Bc))) := Lib.hid (((HG2.out.alloc (.cells #[.int .i64 tn] 3)).trans (chg_of_grown hgrow) (fun k hk e => by have := (HL2.out.own2.lt k e).1; omega)).trans (chg_setCell w2 gc 3 (.slice BA m Bc)) (fun _ _ h => Or.inr h))
          have yf : w2.frozen? ⟨gc, 3, none⟩ = false := Lib.frozen_of_heap ((chg_of_grown hgrow).heap (block_kept (below_alloc1 W1 (.cells #[.int .i64 tn] 3)) HL2.out.con) (fun e => by have := (HL2.out.own2.lt gc e).1; omega)) 3
          have y3 : w2.cell? ⟨gc, 3, none⟩ = some (.slice AA args.length Ac) := cell_at ((chg_of_grown hgrow).heap (block_kept (below_alloc1 W1 (.cells #[.int .i64 tn] 3)) HL2.out.con) (fun e => by have := (HL2.out.own2.lt gc e).1; omega)) (i := 3) rfl
          clear hown' hgrow hat HP2 HL2 HG2
          go_upto_region 7 with fail
          generalize hw6 : w2.setCell ⟨gc, 3, none⟩ (.slice BA m Bc) = W6 at *
          have p6 := HP3.out.cell6
          have HIS := Lib.hid (is_r g _ toks _ _ hv sv [44] HP3.out)
          rw [← HMF.out, ← HTF.out] at HIS HP3
          clear hw6 yf y3
          cases hm : isF toks [44] (termF toks x.doms.length scope q) with
          | false =>
            rw [hm] at HIS
            have HZ := Lib.hid (lin_last HT.out hqi HI.out HE.out hm)
            rw [HTN.out, HTS.out] at HZ
            clear hm
            go_wp2_with (go_at_call 107; refine HIS.out.mono ?_; rintro e w9 ⟨rfl, hb⟩; (have HB9 := Lib.hid hb); clear hb)
            go_meet
            case rel => exact ⟨args ++ [tn], _, _, _, _, HL3.out.below HB9.out, HP3.out.below HB9.out, HG3.out.thenBelow HB9.out, HZ.out⟩
          | true =>
            rw [hm] at HIS
            have HZ := Lib.hid (lin_step HT.out hqi HI.out HE.out hm)
            rw [HTN.out, HTS.out] at HZ
            clear hm
            go_wp2_with (first
              | (go_at_call 107; refine HIS.out.mono ?_; rintro e w9 ⟨rfl, hb⟩; (have HB9 := Lib.hid hb); clear hb)
              | (go_at_call 81; refine (next_r g _ toks _ _ hv sv (HP3.out.below HB9.out)).mono ?_; rintro e wa ⟨rfl, hp, hc⟩; (have HPa := Lib.hid hp); (have HCa := Lib.hid hc); clear hp hc))
            go_roundg (toks.length - (nextF toks (termF toks x.doms.length scope q)).i)
            case rel => exact ⟨args ++ [tn], _, _, _, _, Lib.hid ((HL3.out.below HB9.out).chg HCa.out (by omega)), HPa, Lib.hid ((HG3.out.thenBelow HB9.out).trans HCa.out (fun _ _ h => Or.inl h)), Lib.hid HZ.out.1, rfl⟩
            case measure => have := HG.out; have := HZ.out.2; have := next_lt (term_i (toks := toks) (nd := x.doms.length) (scope := scope) hqi); omega
        · have hd0 : (tn == 0) = false := by simp [h0]
          have HMF : Hid (multF toks q = numberF toks 1000000 q) := Lib.hid (by unfold multF; rw [if_neg (by rw [HTN.out]; exact h0)])
          clear h0
          by_cases hmn : (numberF toks 1000000 q).e = 0
          · have HMN := Lib.hid hmn
            have hd2 : ((numberF toks 1000000 q).e == 0) = true := by simp [hmn]
            have HTS : Hid (termS toks scope q = scope ++ [(tkF toks (numberF toks 1000000 q)).n]) := Lib.hid (by unfold termS; rw [HMF.out, if_pos HMN.out])
            have HTF : Hid (termF toks x.doms.length scope q = variableF toks x.doms.length scope (numberF toks 1000000 q)) := Lib.hid (by unfold termF; rw [HMF.out, if_pos HMN.out])
            clear hmn
            go_wp2_with (first
              | (go_at_call 108; refine (number_r g _ toks q _ hv sv 1000000 (by decide) (by decide) HP.out).mono ?_; rw [HTN.out]; rintro e W1 ⟨rfl, hp, hc⟩; (have HP2 := Lib.hid hp); (have HL2 := Lib.hid (HL.out.chg hc (by omega))); (have HG2 : Hid (Chg (fun k => k = g ∨ k = gc) Wb W1) := Lib.hid (HC.out.trans hc (fun _ _ h => Or.inl h))); (have y3 : W1.cell? ⟨gc, 3, none⟩ = some (.slice AA args.length Ac) := cell_at HL2.out.con (i := 3) rfl); clear hp hc)
              | fail
              | (at_builtin; refine wpList_append_own_at _ rfl _ _ 41 rfl (gc + 1) 3 i0 _ 1 8 Tryz.underlying41 hi0 hz0 hz1 hz2 rfl (by decide) _ args.length (args.map (Value.int .i64)) rfl (HL2.out.own2.alloc _) ⟨_, 0, none⟩ 1 1 [.int .i64 tn] rfl rfl ?c1 ?c2 ?c3 ?c4 ?c5 ?_))
            case c1 => exact World.news_of_block (cs := #[.int .i64 tn]) (t := 3) (fr := (0, 0)) (heap_alloc_new _ _)
            case c2 => simp [Value.oneCell']
            case c3 => (try simp only [maxLen]); (try simp); try omega
            case c4 => (try simp); try omega
            case c5 => have := HG2.out.size; simp; omega
            intro v' w2 hown' hgrow _ hat
            have HO3 : Hid (OwnI (gc + 1) v' (args ++ [tn]) w2) := Lib.hid (by unfold OwnI; simpa using hown')
            obtain ⟨BA, Bc, hv3, _, _, _⟩ := HO3.out.sl (by simp; omega)
            generalize (args ++ [tn]).length = m at hv3
            subst hv3
            have HL3 := Lib.hid ((HL2.out.below (below_alloc1 W1 (.cells #[.int .i64 tn] 3))).args (ys := [tn]) hgrow HO3.out (hat.imp id fun h => ⟨_, h, by simp⟩))
            have HP3 := Lib.hid (((HP2.out.below (below_alloc1 W1 (.cells #[.int .i64 tn] 3))).chg (chg_of_grown hgrow) (fun k hk e => by have := (HL2.out.own2.lt k e).1; omega)).chg (chg_setCell w2 gc 3 (.slice BA m Bc)) (fun k hk e => by omega))
            have HG3 : Hid (Chg (fun k => k = g ∨ k = gc) Wb (w2.setCell ⟨gc, 3, none⟩ (.slice BA m Bc))) := Lib.hid (((HG2.out.alloc (.cells #[.int .i64 tn] 3)).trans (chg_of_grown hgrow) (fun k hk e => by have := (HL2.out.own2.lt k e).1; omega)).trans (chg_setCell w2 gc 3 (.slice BA m Bc)) (fun _ _ h => Or.inr h))
            have yf : w2.frozen? ⟨gc, 3, none⟩ = false := Lib.frozen_of_heap ((chg_of_grown hgrow).heap (block_kept (below_alloc1 W1 (.cells #[.int .i64 tn] 3)) HL2.out.con) (fun e => by have := (HL2.out.own2.lt gc e).1; omega)) 3
            have y3 : w2.cell? ⟨gc, 3, none⟩ = some (.slice AA args.length Ac) := cell_at ((chg_of_grown hgrow).heap (block_kept (below_alloc1 W1 (.cells #[.int .i64 tn] 3)) HL2.out.con) (fun e => by have := (HL2.out.own2.lt gc e).1; omega)) (i := 3) rfl
            clear hown' hgrow hat HP2 HL2 HG2
            go_upto_region 7 with fail
            have HV := Lib.hid (variable_r g (gc + 1) _ toks _ DA x.doms.length Dc hv sv scope _ HP3.out (by omega) (by omega) (by have := HG3.out.size; omega) HL3.out.own1 (by omega) (tok_fit HT.out HP3.out.idx))
            have p6 := HP3.out.cell6
            have y1 : (w2.setCell ⟨gc, 3, none⟩ (.slice BA m Bc)).cell? ⟨gc, 1, none⟩ = some (.slice SA scope.length Sc) := cell_at HL3.out.con (i := 1) rfl
            clear yf y3
            generalize hw6 : w2.setCell ⟨gc, 3, none⟩ (.slice BA m Bc) = W6 at *
            clear hw6
            go_upto_region 9 with (go_at_call 110; refine HV.out.mono ?_; rintro e W7 ⟨⟨v7, rfl, ho7, hp7, hat7⟩, hg7⟩; (obtain ⟨BS, Bd, hv7, _, _, _⟩ := ho7.sl (by simp; omega)); (generalize (scope ++ [(tkF toks (numberF toks 1000000 q)).n]).length = m7 at hv7); subst hv7; (have HL7 := Lib.hid (HL3.out.var hgw' hg7 ho7 hat7)); (have HP7 := Lib.hid (hp7.chg (chg_setCell W7 gc 1 (.slice BS m7 Bd)) (fun k hk e => by omega))); (have HG7 : Hid (Chg (fun k => k = g ∨ k = gc) Wb (W7.setCell ⟨gc, 1, none⟩ (.slice BS m7 Bd))) := Lib.hid ((HG3.out.trans hg7 (fun k hk e => by rcases e with e | e; exact Or.inl e; have := (HL3.out.own1.lt k e).1; omega)).trans (chg_setCell W7 gc 1 (.slice BS m7 Bd)) (fun _ _ h => Or.inr h))); (have hc7 := hg7.heap HL3.out.con (fun e => by rcases e with e | e; omega; have := (HL3.out.own1.lt _ e).1; omega)); (have y4 := cell_at hc7 (i := 1) rfl); (have y5 := Lib.frozen_of_heap hc7 1); clear ho7 hp7 hat7 hg7 hc7 HV)
            generalize hw8 : W7.setCell ⟨gc, 1, none⟩ (.slice BS m7 Bd) = W8 at *
            have HIS := Lib.hid (is_r g _ toks _ _ hv sv [44] HP7.out)
            rw [← HTF.out] at HIS HP7
            clear hw8 y4 y5
            cases hm : isF toks [44] (termF toks x.doms.length scope q) with
            | false =>
              rw [hm] at HIS
              have HZ := Lib.hid (lin_last HT.out hqi HI.out HE.out hm)
              rw [HTN.out, HTS.out] at HZ
              clear hm
              go_wp2_with (go_at_call 107; refine HIS.out.mono ?_; rintro e w9 ⟨rfl, hb⟩; (have HB9 := Lib.hid hb); clear hb)
              go_meet
              case rel => exact ⟨args ++ [tn], _, _, _, _, HL7.out.below HB9.out, HP7.out.below HB9.out, HG7.out.thenBelow HB9.out, HZ.out⟩
            | true =>
              rw [hm] at HIS
              have HZ := Lib.hid (lin_step HT.out hqi HI.out HE.out hm)
              rw [HTN.out, HTS.out] at HZ
              clear hm
              go_wp2_with (first
                | (go_at_call 107; refine HIS.out.mono ?_; rintro e w9 ⟨rfl, hb⟩; (have HB9 := Lib.hid hb); clear hb)
                | (go_at_call 81; refine (next_r g _ toks _ _ hv sv (HP7.out.below HB9.out)).mono ?_; rintro e wa ⟨rfl, hp, hc⟩; (have HPa := Lib.hid hp); (have HCa := Lib.hid hc); clear hp hc))
              go_roundg (toks.length - (nextF toks (termF toks x.doms.length scope q)).i)
              case rel => exact ⟨args ++ [tn], _, _, _, _, Lib.hid ((HL7.out.below HB9.out).chg HCa.out (by omega)), HPa, Lib.hid ((HG7.out.thenBelow HB9.out).trans HCa.out (fun _ _ h => Or.inl h)), Lib.hid HZ.out.1, rfl⟩
              case measure => have := HG.out; have := HZ.out.2; have := next_lt (term_i (toks := toks) (nd := x.doms.length) (scope := scope) hqi); omega
          · have HMN := Lib.hid hmn
            clear hmn
            have HTS : Hid (termS toks scope q = scope) := Lib.hid (by unfold termS; rw [if_neg (by rw [HMF.out]; exact HMN.out)])
            have HTF : Hid (termF toks x.doms.length scope q = multF toks q) := Lib.hid (by unfold termF; rw [if_neg (by rw [HMF.out]; exact HMN.out)])
            have hd2 : ((numberF toks 1000000 q).e == 0) = false := by simpa using HMN.out
            go_wp2_with (first
              | (go_at_call 108; refine (number_r g _ toks q _ hv sv 1000000 (by decide) (by decide) HP.out).mono ?_; rw [HTN.out]; rintro e W1 ⟨rfl, hp, hc⟩; (have HP2 := Lib.hid hp); (have HL2 := Lib.hid (HL.out.chg hc (by omega))); (have HG2 : Hid (Chg (fun k => k = g ∨ k = gc) Wb W1) := Lib.hid (HC.out.trans hc (fun _ _ h => Or.inl h))); (have y3 : W1.cell? ⟨gc, 3, none⟩ = some (.slice AA args.length Ac) := cell_at HL2.out.con (i := 3) rfl); clear hp hc)
              | fail
              | (at_builtin; refine wpList_append_own_at _ rfl _ _ 41 rfl (gc + 1) 3 i0 _ 1 8 Tryz.underlying41 hi0 hz0 hz1 hz2 rfl (by decide) _ args.length (args.map (Value.int .i64)) rfl (HL2.out.own2.alloc _) ⟨_, 0, none⟩ 1 1 [.int .i64 tn] rfl rfl ?c1 ?c2 ?c3 ?c4 ?c5 ?_))
            case c1 => exact World.news_of_block (cs := #[.int .i64 tn]) (t := 3) (fr := (0, 0)) (heap_alloc_new _ _)
            case c2 => simp [Value.oneCell']
            case c3 => (try simp only [maxLen]); (try simp); try omega
            case c4 => (try simp); try omega
            case c5 => have := HG2.out.size; simp; omega
            intro v' w2 hown' hgrow _ hat
            have HO3 : Hid (OwnI (gc + 1) v' (args ++ [tn]) w2) := Lib.hid (by unfold OwnI; simpa using hown')
            obtain ⟨BA, Bc, hv3, _, _, _⟩ := HO3.out.sl (by simp; omega)
            generalize (args ++ [tn]).length = m at hv3
            subst hv3
            have HL3 := Lib.hid ((HL2.out.below (below_alloc1 W1 (.cells #[.int .i64 tn] 3))).args (ys := [tn]) hgrow HO3.out (hat.imp id fun h => ⟨_, h, by simp⟩))
            have HP3 := Lib.hid (((HP2.out.below (below_alloc1 W1 (.cells #[.int .i64 tn] 3))).chg (chg_of_grown hgrow) (fun k hk e => by have := (HL2.out.own2.lt k e).1; omega)).chg (chg_setCell w2 gc 3 (.slice BA m Bc)) (fun k hk e => by omega))
            have HG3 : Hid (Chg (fun k => k = g ∨ k = gc) Wb (w2.setCell ⟨gc, 3, none⟩ (.slice BA m Bc))) := Lib.hid (((HG2.out.alloc (.cells #[.int .i64 tn] 3)).trans (chg_of_grown hgrow) (fun k hk e => by have := (HL2.out.own2.lt k e).1; omega)).trans (chg_setCell w2 gc 3 (.slice BA m Bc)) (fun _ _ h => Or.inr h))
            have yf : w2.frozen? ⟨gc, 3, none⟩ = false := Lib.frozen_of_heap ((chg_of_grown hgrow).heap (block_kept (below_alloc1 W1 (.cells #[.int .i64 tn] 3)) HL2.out.con) (fun e => by have := (HL2.out.own2.lt gc e).1; omega)) 3
            have y3 : w2.cell? ⟨gc, 3, none⟩ = some (.slice AA args.length Ac) := cell_at ((chg_of_grown hgrow).heap (block_kept (below_alloc1 W1 (.cells #[.int .i64 tn] 3)) HL2.out.con) (fun e => by have := (HL2.out.own2.lt gc e).1; omega)) (i := 3) rfl
            clear hown' hgrow hat HP2 HL2 HG2
            go_upto_region 7 with fail
            generalize hw6 : w2.setCell ⟨gc, 3, none⟩ (.slice BA m Bc) = W6 at *
            have p6 := HP3.out.cell6
            have HIS := Lib.hid (is_r g _ toks _ _ hv sv [44] HP3.out)
            rw [← HMF.out, ← HTF.out] at HIS HP3
            clear hw6 yf y3
            cases hm : isF toks [44] (termF toks x.doms.length scope q) with
            | false =>
              rw [hm] at HIS
              have HZ := Lib.hid (lin_last HT.out hqi HI.out HE.out hm)
              rw [HTN.out, HTS.out] at HZ
              clear hm
              go_wp2_with (go_at_call 107; refine HIS.out.mono ?_; rintro e w9 ⟨rfl, hb⟩; (have HB9 := Lib.hid hb); clear hb)
              go_meet
              case rel => exact ⟨args ++ [tn], _, _, _, _, HL3.out.below HB9.out, HP3.out.below HB9.out, HG3.out.thenBelow HB9.out, HZ.out⟩
            | true =>
              rw [hm] at HIS
              have HZ := Lib.hid (lin_step HT.out hqi HI.out HE.out hm)
              rw [HTN.out, HTS.out] at HZ
              clear hm
              go_wp2_with (first
                | (go_at_call 107; refine HIS.out.mono ?_; rintro e w9 ⟨rfl, hb⟩; (have HB9 := Lib.hid hb); clear hb)
                | (go_at_call 81; refine (next_r g _ toks _ _ hv sv (HP3.out.below HB9.out)).mono ?_; rintro e wa ⟨rfl, hp, hc⟩; (have HPa := Lib.hid hp); (have HCa := Lib.hid hc); clear hp hc))
              go_roundg (toks.length - (nextF toks (termF toks x.doms.length scope q)).i)
              case rel => exact ⟨args ++ [tn], _, _, _, _, Lib.hid ((HL3.out.below HB9.out).chg HCa.out (by omega)), HPa, Lib.hid ((HG3.out.thenBelow HB9.out).trans HCa.out (fun _ _ h => Or.inl h)), Lib.hid HZ.out.1, rfl⟩
              case measure => have := HG.out; have := HZ.out.2; have := next_lt (term_i (toks := toks) (nd := x.doms.length) (scope := scope) hqi); omega
      · have hd1 : (q.e == 0) = false := by simp [he]
        have HZ := Lib.hid (lin_out HT.out HI.out hqi he)
        clear he
        go_wp2_with fail
        go_meet
        case rel => exact ⟨args, scope, _, _, q, HL.out, HP.out, HC.out, HZ.out⟩
  case rest =>
    clear HL0 HP0
    obtain ⟨args, scope, vs, va, q, hl, hp, hc, htp⟩ := hcut
    have HL := Lib.hid hl
    have HP5 := Lib.hid hp
    have HG5 : Hid (Chg (fun k => k = g ∨ k = gc) w wc) := Lib.hid ((HG1.out.mono (T := fun k => k = g ∨ k = gc) (fun _ _ h => Or.inl h)).trans hc (fun _ _ h => h))
    have HTP := Lib.hid htp
    have hal := htp.2.1
    have hsl := htp.2.2.1
    have hqi := hp.idx
    clear hl hp hc htp HG1
    obtain ⟨s4, hs4⟩ : ∃ s4, s4 = signF toks [58] q := ⟨_, rfl⟩
    have HS4 := Lib.hid hs4
    have hi4 : s4.i < toks.length := by rw [hs4]; exact sign_i _ hqi
    obtain ⟨B1, hB1⟩ : ∃ B, isF toks [108, 101] s4 = B := ⟨_, rfl⟩
    obtain ⟨B2, hB2⟩ : ∃ B, isF toks [110, 101] s4 = B := ⟨_, rfl⟩
    have HB1 := Lib.hid hB1
    have HB2 := Lib.hid hB2
    clear hs4 hB1 hB2
    go_upto_if 54 with (first
      | (go_at_call 86; refine (sign_r g _ toks q _ hv sv [58] HP5.out).mono ?_; rw [← HS4.out]; rintro e W2 ⟨rfl, hp, hc⟩; (have HP6 := Lib.hid hp); (have HL6 := Lib.hid (HL.out.chg hc (by omega))); (have HG6 : Hid (Chg (fun k => k = g ∨ k = gc) w W2) := Lib.hid (HG5.out.trans hc (fun _ _ h => Or.inl h))); clear hp hc HP5 HL HG5)
      | (go_at_call 107; refine (is_r g _ toks _ _ hv sv [108, 101] HP6.out).mono ?_; rw [HB1.out]; rintro e W3 ⟨rfl, hb⟩; (have HP7 := Lib.hid (HP6.out.below hb)); (have HL7 := Lib.hid (HL6.out.below hb)); (have HG7 := Lib.hid (HG6.out.thenBelow hb)); clear hb HP6 HL6 HG6)
      | (go_at_call 107; refine (is_r g _ toks _ _ hv sv [110, 101] HP7.out).mono ?_; rw [HB2.out]; rintro e W4 ⟨rfl, hb⟩; (have HP8 := Lib.hid (HP7.out.below hb)); (have HL8 := Lib.hid (HL7.out.below hb)); (have HG8 := Lib.hid (HG7.out.thenBelow hb)); clear hb HP7 HL7 HG7))
    go_cut [6] from 54 to 55 (fun v6 wx => v6 = .int .i64 (howF toks s4) ∧ wx = W4)
    case first =>
      cases B1 with
      | true =>
        have HH : Hid (howF toks s4 = 1) := Lib.hid (by unfold howF; rw [if_pos HB1.out])
        go_wp2_with fail
        go_meet
        case rel => exact ⟨by rw [HH.out]; rfl, rfl⟩
      | false =>
        cases B2 with
        | true =>
          have HH : Hid (howF toks s4 = 2) := Lib.hid (by unfold howF; rw [if_neg (by rw [HB1.out]; decide), if_pos HB2.out])
          go_wp2_with fail
          go_meet
          case rel => exact ⟨by rw [HH.out]; rfl, rfl⟩
        | false =>
          have HH : Hid (howF toks s4 = 0) := Lib.hid (by unfold howF; rw [if_neg (by rw [HB1.out]; decide), if_neg (by rw [HB2.out]; decide)])
          go_wp2_with fail
          go_meet
          case rel => exact ⟨by rw [HH.out]; rfl, rfl⟩
    case rest =>
      obtain ⟨rfl, rfl⟩ := hcut
      have hhl := how_lt (toks := toks) (s := s4)
      have HLAW := Lib.hid (fun h0 : s.e = 0 => linear_law HT.out hqi HTP.out h0)
      rw [← HS4.out] at HLAW
      have HSUM : Hid (sumF toks s4 = signF toks (wordH (howF toks s4)) s4) := Lib.hid rfl
      have HKP : Hid (Kept s (sumF toks s4)) := Lib.hid ((HTP.out.1.trans (by rw [HS4.out]; exact sign_kept _)).trans (sign_kept _))
      clear HTP HS4 HB1 HB2
      generalize howF toks s4 = how at *
      go_upto_region 20 with fail
      go_cut [] from 56 to 61 (fun wx => RB g wx toks (sumF toks s4) (.slice DA x.doms.length Dc) hv sv ∧ LinS gc wx vs va args scope ∧ Chg (fun k => k = g ∨ k = gc) w wx)
      case first =>
        clear HLAW HKP
        have : how = 0 ∨ how = 1 ∨ how = 2 := by omega
        rcases this with rfl | rfl | rfl
        · go_wp2_with (go_at_call 86; refine (sign_r g _ toks s4 _ hv sv [101, 113] (HP8.out.below (below_alloc1 _ _))).mono ?_; rintro e W5 ⟨rfl, hp, hc⟩; (have HP9 := Lib.hid hp); (have HL9 := Lib.hid ((HL8.out.below (below_alloc1 _ _)).chg hc (by omega))); (have HG9 : Hid (Chg (fun k => k = g ∨ k = gc) w W5) := Lib.hid ((HG8.out.alloc _).trans hc (fun _ _ h => Or.inl h))); clear hp hc)
          go_meet
          case rel => exact ⟨by rw [HSUM.out]; exact HP9.out, HL9.out, HG9.out⟩
        · go_wp2_with (go_at_call 86; refine (sign_r g _ toks s4 _ hv sv [108, 101] (HP8.out.below (below_alloc1 _ _))).mono ?_; rintro e W5 ⟨rfl, hp, hc⟩; (have HP9 := Lib.hid hp); (have HL9 := Lib.hid ((HL8.out.below (below_alloc1 _ _)).chg hc (by omega))); (have HG9 : Hid (Chg (fun k => k = g ∨ k = gc) w W5) := Lib.hid ((HG8.out.alloc _).trans hc (fun _ _ h => Or.inl h))); clear hp hc)
          go_meet
          case rel => exact ⟨by rw [HSUM.out]; exact HP9.out, HL9.out, HG9.out⟩
        · go_wp2_with (go_at_call 86; refine (sign_r g _ toks s4 _ hv sv [110, 101] (HP8.out.below (below_alloc1 _ _))).mono ?_; rintro e W5 ⟨rfl, hp, hc⟩; (have HP9 := Lib.hid hp); (have HL9 := Lib.hid ((HL8.out.below (below_alloc1 _ _)).chg hc (by omega))); (have HG9 : Hid (Chg (fun k => k = g ∨ k = gc) w W5) := Lib.hid ((HG8.out.alloc _).trans hc (fun _ _ h => Or.inl h))); clear hp hc)
          go_meet
          case rel => exact ⟨by rw [HSUM.out]; exact HP9.out, HL9.out, HG9.out⟩
      case rest =>
      clear HP8 HL8 HG8 HSUM
      obtain ⟨hp, hl, hc⟩ := hcut
      have HP9 := Lib.hid hp
      have HL9 := Lib.hid hl
      have HG9 := Lib.hid hc
      have hbs := hc.size
      have hi5 := hp.idx
      clear hp hl hc
      generalize sumF toks s4 = s5 at *
      obtain ⟨AA, Ac, rfl, _, _, _⟩ := HL9.out.own2.sl (by omega)
      have p6 := HP9.out.cell6
      go_upto_if 66 with fail
      go_cut [] from 66 to 74 (fun wx => ∃ v, RB g wx toks (endF toks s5) (.slice DA x.doms.length Dc) hv sv ∧ LinS gc wx vs v (endA toks how args s5) scope ∧ Chg (fun k => k = g ∨ k = gc) w wx)
      case first =>
        by_cases he : s5.e = 0
        · have hd1 : (s5.e == 0) = true := by simp [he]
          have HF : Hid (endF toks s5 = numberF toks 1000000 s5) := Lib.hid (by unfold endF; rw [if_pos he])
          have HA : Hid (endA toks how args s5 = args ++ [(how : Int), (tkF toks s5).n]) := Lib.hid (by unfold endA; rw [if_pos he])
          obtain ⟨tn, htn⟩ : ∃ tn, (tkF toks s5).n = tn := ⟨_, rfl⟩
          rw [htn] at HA
          have HTN := Lib.hid htn
          clear he htn
          go_upto_region 22 with fail
          have hdr := Below.drew (Below.refl wc.heap.size wc)
          have HPd := Lib.hid (HP9.out.below hdr)
          have HLd := Lib.hid (HL9.out.below hdr)
          have HGd := Lib.hid HG9.out.drew
          have c1 : (World.drew wc).cell? ⟨gc, 3, none⟩ = some (.slice AA args.length Ac) := cell_at HLd.out.con (i := 3) rfl
          have hbd : wc.heap.size ≤ (World.drew wc).heap.size := Nat.le_refl _
          clear hdr p6 HP9 HL9 HG9
          refine wp_region_lex (fun w' => w'.cell? ⟨gc, 3, none⟩ = some (.slice AA args.length Ac)) [true, true, true, true, false, false, false, false, false] (by kernel_rfl) (by kernel_rfl) (fun c a d v w h => by cases d <;> exact h) ?_
          change wpLex _ _ _ _ _ _ _ _ _ (World.drew wc)
          generalize World.drew wc = W at *
          repeat (first | (refine lex_take c1 rfl (fun w' hw' => by (obtain u1 := hw'; (try go_simp); try rfl)) (fun K hK => ?_); go_simp; refine hK _ _ ?_; clear hK K) | (refine lex_take_on _ _ _ _ c1 rfl rfl rfl rfl (fun w' hw' => by (obtain u1 := hw'; (try go_simp); try rfl)) (fun K hK => ?_); go_simp; refine hK _ _ ?_; clear hK K) | (refine lex_take_off _ _ _ _ _ c1 rfl rfl rfl rfl rfl (fun K hK => ?_); go_simp; refine hK _ _ ?_; clear hK K))
          refine lex_step rfl (fun K hK => ?_)
          go_wp2_with (go_at_call 108; refine (number_r g _ toks s5 _ hv sv 1000000 (by decide) (by decide) HPd.out).mono ?_; rw [HTN.out]; rintro e W1 ⟨rfl, hp, hc⟩; (have HP2 := Lib.hid hp); (have HL2 := Lib.hid (HLd.out.chg hc (by omega))); (have HG2 : Hid (Chg (fun k => k = g ∨ k = gc) w W1) := Lib.hid (HGd.out.trans hc (fun _ _ h => Or.inl h))); (have hbs2 := hc.size); (have d1 : W1.cell? ⟨gc, 3, none⟩ = some (.slice AA args.length Ac) := cell_at HL2.out.con (i := 3) rfl); clear hp hc)
          refine hK _ _ d1 ?_
          clear hK K c1
          refine lex_step rfl (fun K hK => ?_)
          go_wp2_with fail
          have hal2 := below_alloc1 W1 (.cells #[.int .i64 how, .int .i64 tn] 3)
          refine hK _ _ (cell_kept hal2 d1) ?_
          clear hK K d1
          have HL3 := Lib.hid (HL2.out.below hal2)
          have HP3 := Lib.hid (HP2.out.below hal2)
          have HG3 := Lib.hid (HG2.out.alloc (.cells #[.int .i64 how, .int .i64 tn] 3))
          refine lex_step rfl (fun K hK => ?_)
          refine wp_append_lies _ _ _ 41 rfl (gc + 1) 3 i0 _ 1 8 Tryz.underlying41 hi0 hz0 hz1 hz2 rfl (by decide) (.slice AA args.length Ac) args.length (args.map (Value.int .i64)) rfl HL3.out.own2 ⟨_, 0, none⟩ 2 2 [.int .i64 how, .int .i64 tn] rfl rfl (World.news_of_block (cs := #[.int .i64 how, .int .i64 tn]) (t := 3) (fr := (0, 0)) (heap_alloc_new W1 _)) (by simp [Value.oneCell']) (by decide) (by simp only [maxLen]; omega) (by omega) (by simp; omega) (W1.heap.size + 1) (by simp) ?_
          intro kb cap V3 hown hgrow hat hltk
          have HO4 : Hid (OwnI (gc + 1) (.slice (some ⟨kb, 0, none⟩) (args.length + 2) cap) (args ++ [(how : Int), tn]) V3) := Lib.hid (OwnI.snoc (ys := [(how : Int), tn]) hown (by simp))
          have HL4 := Lib.hid (HL3.out.args hgrow HO4.out (hat.imp (fun h => h.symm) fun h => ⟨kb, rfl, by rw [h]; simp⟩))
          have HP4 := Lib.hid ((HP3.out.chg (chg_of_grown hgrow) (fun k hk e => by have := (HL3.out.own2.lt k e).1; omega)).chg (chg_setCell V3 gc 3 (.slice (some ⟨kb, 0, none⟩) (args.length + 2) cap)) (fun k hk e => by omega))
          have HG4 : Hid (Chg (fun k => k = g ∨ k = gc) w (V3.setCell ⟨gc, 3, none⟩ (.slice (some ⟨kb, 0, none⟩) (args.length + 2) cap))) := Lib.hid ((HG3.out.trans (chg_of_grown hgrow) (fun k hk e => by have := (HL3.out.own2.lt k e).1; omega)).trans (chg_setCell V3 gc 3 _) (fun _ _ h => Or.inr h))
          have hc4 := (chg_of_grown hgrow).heap HL3.out.con (fun e => by have := (HL3.out.own2.lt gc e).1; omega)
          have yf := Lib.frozen_of_heap hc4 3
          refine hK _ _ (cell_at hc4 (i := 3) rfl) ?_
          clear hK K hown hgrow hat
          have y3 : V3.cell? ⟨gc, 3, none⟩ = some (.slice AA args.length Ac) := cell_at hc4 (i := 3) rfl
          refine lex_list _ _ _ _ _ rfl (by kernel_rfl) ?_
          go_wp2_with fail
          go_meet
          case rel => exact ⟨_, by rw [HF.out]; exact HP4.out, by rw [HA.out]; exact HL4.out, HG4.out⟩
        · have hd1 : (s5.e == 0) = false := by simp [he]
          have HF : Hid (endF toks s5 = s5) := Lib.hid (by unfold endF; rw [if_neg he])
          have HA : Hid (endA toks how args s5 = args) := Lib.hid (by unfold endA; rw [if_neg he])
          clear he
          go_wp2_with fail
          go_meet
          case rel => exact ⟨_, by rw [HF.out]; exact HP9.out, by rw [HA.out]; exact HL9.out, HG9.out⟩
      case rest =>
        clear HP9 HL9 HG9
        obtain ⟨va, hp, hl, hc⟩ := hcut
        have HP5 := Lib.hid hp
        have HL5 := Lib.hid hl
        have HG5 := Lib.hid hc
        have hel : (endA toks how args s5).length ≤ 200002 := by unfold endA; split; simp; omega; omega
        have HEND : Hid (Kept s (signF toks [59] (endF toks s5)) ∧ (s.e = 0 → Ag toks (signF toks [59] (endF toks s5)) (thenSign (hardQ x.doms 6 (toks.drop s.i))) (fun c' => c' = ⟨6, scope, [], endA toks how args s5⟩))) := Lib.hid ⟨(HKP.out.trans endF_kept).trans (sign_kept _), fun h0 => ag_sign HT.out (endF_i hi5) (hard_lin (HLAW.out h0))⟩
        generalize endF toks s5 = s6 at *
        generalize endA toks how args s5 = args2 at *
        obtain ⟨SA, Sc, rfl, _, _, _⟩ := hl.own1.sl (by omega)
        obtain ⟨AB, Ad, rfl, _, _, _⟩ := hl.own2.sl (by omega)
        clear hp hl hc HLAW HKP
        go_upto_region 24 with (go_at_call 86; refine (sign_r g _ toks s6 _ hv sv [59] HP5.out).mono ?_; rintro e V0 ⟨rfl, hp, hc⟩; (have HP9 := Lib.hid hp); (have HC6 := Lib.hid hc); clear hp hc)
        have HL9 := Lib.hid (HL5.out.chg HC6.out (by omega))
        have HG9 : Hid (Chg (fun k => k = g ∨ k = gc) w V0) := Lib.hid (HG5.out.trans HC6.out (fun _ _ h => Or.inl h))
        have HS9a := Lib.hid (((HL9.out.own1.done (by omega) (show w.heap.size ≤ gc + 1 by omega)).below (by decide) (Below.drew (Below.refl V0.heap.size V0))).mono (ok' := fun k => w.heap.size ≤ k ∧ k < (World.drew V0).heap.size) (fun k hk => hk))
        have HA9a := Lib.hid (((HL9.out.own2.done (by omega) (show w.heap.size ≤ gc + 1 by omega)).below (by decide) (Below.drew (Below.refl V0.heap.size V0))).mono (ok' := fun k => w.heap.size ≤ k ∧ k < (World.drew V0).heap.size) (fun k hk => hk))
        have HC9 := Lib.hid HL9.out.con
        clear HL5 HP5 HG5 HL9 HC6
        have hszv := HG9.out.size
        have hs9' : PSt g (World.drew V0).heap.size (World.drew V0) x (.slice DA x.doms.length Dc) hv sv (fun k => ok k ∨ (w.heap.size ≤ k ∧ k < (World.drew V0).heap.size)) := (HST.out.chg HG9.out.drew (fun k hk => by omega)).fill hszv hgw
        have HKX := Lib.hid (show kCon.K (World.drew V0) (fun k => ok k ∨ (w.heap.size ≤ k ∧ k < (World.drew V0).heap.size)) ⟨6, scope, ([] : List (List Int)), args2⟩ [.int .i64 6, (.slice SA scope.length Sc), (.slice none 0 0), (.slice AB args2.length Ad)] from con_K (HS9a.out.mono fun _ h => Or.inr h) ((sl_nil none 0).mono fun _ h => Or.inr h) (HA9a.out.mono fun _ h => Or.inr h))
        obtain ⟨HA9, Hc9, hHv, _, _, _⟩ := hs9'.H.sl (by omega)
        subst hHv
        have HS9 := Lib.hid hs9'
        have hdr9 := Below.drew (Below.refl V0.heap.size V0)
        have HP10 := Lib.hid (HP9.out.below hdr9)
        have HG10 := Lib.hid HG9.out.drew
        have hc10 : ConAt gc (World.drew V0) 6 (.slice SA scope.length Sc) (.slice none 0 0) (.slice AB args2.length Ad) := HC9.out
        have x1 := HP10.out.cellH
        have x2 : (World.drew V0).cell? ⟨gc, 0, none⟩ = some (.int .i64 6) := cell_at hc10 (i := 0) rfl
        have x3 : (World.drew V0).cell? ⟨gc, 1, none⟩ = some ((.slice SA scope.length Sc)) := cell_at hc10 (i := 1) rfl
        have x4 : (World.drew V0).cell? ⟨gc, 2, none⟩ = some ((.slice none 0 0)) := cell_at hc10 (i := 2) rfl
        have x5 : (World.drew V0).cell? ⟨gc, 3, none⟩ = some ((.slice AB args2.length Ad)) := cell_at hc10 (i := 3) rfl
        have HC10 := Lib.hid hc10
        clear hc10 hs9' HP9 HG9 HC9 HST hdr9
        obtain ⟨iC, hiC, hC0, hC1, hC2⟩ := info_parts (show (Tryz.prog.info? 43).map (fun i => (i.zero, i.size, i.bytes)) = some (some (.agg #[.int .i64 0, .slice none 0 0, .slice none 0 0, .slice none 0 0]), 4, 80) by kernel_rfl)
        refine wp_region_lex (fun w' => w'.cell? ⟨g, 3, none⟩ = some (.slice HA9 x.hard.length Hc9) ∧ w'.cell? ⟨gc, 0, none⟩ = some (.int .i64 6) ∧ w'.cell? ⟨gc, 1, none⟩ = some ((.slice SA scope.length Sc)) ∧ w'.cell? ⟨gc, 2, none⟩ = some ((.slice none 0 0)) ∧ w'.cell? ⟨gc, 3, none⟩ = some ((.slice AB args2.length Ad))) [true, true, true, true, true, true, true, false, false, false, false, false, false] (by kernel_rfl) (by kernel_rfl) (fun c a d v w h => by cases d <;> exact h) ?_
        change wpLex _ _ _ _ _ _ _ _ _ (World.drew V0)
        have hV : V0.heap.size ≤ (World.drew V0).heap.size := Nat.le_refl _
        generalize World.drew V0 = V at *
        repeat (first | (refine lex_take ⟨x1, x2, x3, x4, x5⟩ rfl (fun w' hw' => by (obtain ⟨y1, y2, y3, y4, y5⟩ := hw'; (try go_simp); try rfl)) (fun K hK => ?_); go_simp; refine hK _ _ ?_; clear hK K) | (refine lex_take_on _ _ _ _ ⟨x1, x2, x3, x4, x5⟩ rfl rfl rfl rfl (fun w' hw' => by (obtain ⟨y1, y2, y3, y4, y5⟩ := hw'; (try go_simp); try rfl)) (fun K hK => ?_); go_simp; refine hK _ _ ?_; clear hK K) | (refine lex_take_off _ _ _ _ _ ⟨x1, x2, x3, x4, x5⟩ rfl rfl rfl rfl rfl (fun K hK => ?_); go_simp; refine hK _ _ ?_; clear hK K))
        refine lex_step rfl (fun K hK => ?_)
        go_wp2_with fail
        have hal9 := below_alloc1 V (.cells #[.int .i64 6, (.slice SA scope.length Sc), (.slice none 0 0), (.slice AB args2.length Ad)] 43)
        refine hK _ _ ⟨cell_kept hal9 x1, cell_kept hal9 x2, cell_kept hal9 x3, cell_kept hal9 x4, cell_kept hal9 x5⟩ ?_
        clear hK K hal9
        have HS11 := Lib.hid (HS9.out.chg (Chg.alloc0 V (.cells #[.int .i64 6, (.slice SA scope.length Sc), (.slice none 0 0), (.slice AB args2.length Ad)] 43) (fun _ => False)) (fun _ h => h.elim))
        have HK11 := Lib.hid (kCon.chg HKX.out (Chg.alloc0 V (.cells #[.int .i64 6, (.slice SA scope.length Sc), (.slice none 0 0), (.slice AB args2.length Ad)] 43) (fun _ => False)) (fun _ _ h => h))
        obtain ⟨css, hcs1, hcs2⟩ := HS11.out.H.open_
        have HCS1 := Lib.hid hcs1
        have HCS2 := Lib.hid hcs2
        have HHO := Lib.hid (fun k hk => HS9.out.H.own k hk)
        clear hcs1 hcs2
        refine lex_step rfl (fun K hK => ?_)
        refine wp_append_lies _ _ _ 23 rfl (g + 1) 43 iC _ 4 80 Tryz.underlying23 hiC hC0 hC1 hC2 rfl (by decide) (.slice HA9 x.hard.length Hc9) x.hard.length css.flatten rfl HCS2.out ⟨_, 0, none⟩ 1 1 [.int .i64 6, (.slice SA scope.length Sc), (.slice none 0 0), (.slice AB args2.length Ad)] rfl rfl (World.news_of_block (cs := #[.int .i64 6, (.slice SA scope.length Sc), (.slice none 0 0), (.slice AB args2.length Ad)]) (t := 43) (fr := (0, 0)) (heap_alloc_new V _)) (by simp [Value.oneCell']) (by decide) (by simp only [maxLen]; omega) (by omega) (by simp; omega) (V.heap.size + 1) (by simp) ?_
        intro kb cap V3 hown hgrow hat hlt
        have hF3 : Chg (fun k => (Value.slice HA9 x.hard.length Hc9).ownBlock = some k) V V3 := (Chg.alloc0 V _ _).trans (chg_of_grown hgrow) (fun _ _ h => h)
        have HS12 := Lib.hid (HS11.out.addH (by simp) HCS1.out HK11.out hgrow hown (hat_of hat (by simp)))
        have HP12 := Lib.hid (HP10.out.chg hF3 (fun k hk e => by have := (HHO.out k e).1; omega))
        have hc12 : ConAt gc V3 6 (.slice SA scope.length Sc) (.slice none 0 0) (.slice AB args2.length Ad) := hF3.heap HC10.out (fun e => (HHO.out _ e).2.2 (Or.inr ⟨by omega, by have := lt_of_block HC10.out; omega⟩))
        have y1 := HP12.out.cellH
        have yf := HP12.out.froz 3
        have y2 : V3.cell? ⟨gc, 0, none⟩ = some (.int .i64 6) := cell_at hc12 (i := 0) rfl
        have y3 : V3.cell? ⟨gc, 1, none⟩ = some ((.slice SA scope.length Sc)) := cell_at hc12 (i := 1) rfl
        have y4 : V3.cell? ⟨gc, 2, none⟩ = some ((.slice none 0 0)) := cell_at hc12 (i := 2) rfl
        have y5 : V3.cell? ⟨gc, 3, none⟩ = some ((.slice AB args2.length Ad)) := cell_at hc12 (i := 3) rfl
        have HG12 := Lib.hid ((HG10.out.mono (fun j _ h => (by omega : g ≤ j))).trans hF3 (fun j hj e => by have := (HHO.out j e).1; omega))
        clear hown hgrow hat hF3 hc12
        refine hK _ _ ⟨y1, y2, y3, y4, y5⟩ ?_
        clear hK K
        refine lex_list _ _ _ _ _ rfl (by kernel_rfl) ?_
        go_wp2
        go_end0
        refine ⟨⟨6, scope, ([] : List (List Int)), args2⟩, _, rfl, ⟨_, _, sv, _, HP12.out.setH _, (HS12.out.chg (chg_setCell V3 g 3 _) (fun k hk => by omega)).later (by rw [Go.Deep.nblk_setCell]; exact Nat.le_refl _)⟩, ?_, HEND.out.1, HEND.out.2⟩
        exact (HG12.out.trans (chg_setCell V3 g 3 _) (fun j _ e => by omega)).below (fun k hk e => by omega) (by omega)
end Go.Proofs.YtoahaigfjfeopaaGreatDoor
