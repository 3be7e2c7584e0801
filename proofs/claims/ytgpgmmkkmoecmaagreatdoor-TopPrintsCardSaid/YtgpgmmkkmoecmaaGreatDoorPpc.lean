/- Texts joined: Wz Wab Wac Wad Wae Waf. -/
import Derived.Test.YtgpgmmkkmoecmaaGreatDoorPpb
import Derived.Test.YtgpgmmkkmoecmaaGreatDoorPpa
/- inst.parser: rows. -/
namespace Go.Proofs.YtgpgmmkkmoecmaaGreatDoor
open Go.RowKit
attribute [local irreducible] wpStill wpLex Calls

theorem valsQ_len (doms : List (List Int)) : ∀ (scope : List Int) (ts : List Tok) (t : List Int) (r : List Tok), valsQ doms scope ts = .ok (t, r) → r.length ≤ ts.length
  | [], ts, t, r, h => by simp [valsQ] at h; rw [h.2]; exact Nat.le_refl _
  | v :: ss, ts, t, r, h => by
    cases ts with
    | nil => simp [valsQ, numberQ] at h
    | cons t0 r0 =>
      cases hn : numberQ 1000000 (t0 :: r0) with
      | error e => rw [valsQ_num hn] at h; cases h
      | ok p =>
        obtain ⟨t1, r1⟩ := p
        have hr : r1 = r0 := by
          simp only [numberQ] at hn
          split at hn
          · split at hn
            · injection hn with hn; injection hn with _ hn; exact hn.symm
            · cases hn
          · cases hn
        by_cases hm : t1.n ∈ nth [] doms v.toNat
        · rw [valsQ_go hn hm] at h
          cases hv : valsQ doms ss r1 with
          | error e => rw [hv] at h; cases h
          | ok q =>
            rw [hv] at h
            obtain ⟨ms, r2⟩ := q
            simp only [preV] at h
            injection h with h
            injection h with _ h
            have := valsQ_len doms ss r1 ms r2 hv
            subst hr
            subst h
            simp; omega
        · rw [valsQ_bad hn hm] at h; cases h
theorem rowQ_len {doms : List (List Int)} {scope : List Int} {ahead rows : List (List Int)} {ts r : List Tok} (h : rowQ doms scope ahead ts = .ok (rows, r)) : r.length ≤ ts.length ∧ rows.length = ahead.length + 1 := by
  rw [rowQ] at h
  cases hv : valsQ doms scope ts with
  | error e => rw [hv] at h; cases h
  | ok q =>
    rw [hv] at h
    obtain ⟨t, r1⟩ := q
    simp only at h
    split at h
    · injection h with h
      injection h with h1 h2
      subst h1 h2
      exact ⟨valsQ_len doms scope ts t r1 hv, by simp⟩
    · cases h
theorem rowsQ_err {doms : List (List Int)} {scope : List Int} {n : Nat} {ahead : List (List Int)} {ts : List Tok} {e : Int × Int} (h : rowQ doms scope ahead ts = .error e) : rowsQ doms scope (n + 1) ahead ts = .error e := by rw [rowsQ, h]
theorem rowsQ_end {doms : List (List Int)} {scope : List Int} {n : Nat} {ahead rows : List (List Int)} {ts r : List Tok} {t : Tok} (h : rowQ doms scope ahead ts = .ok (rows, t :: r)) (hi : isP t [44] = false) : rowsQ doms scope (n + 1) ahead ts = .ok (rows, t :: r) := by
  rw [rowsQ, h]; simp [isQ, hi]
theorem rowsQ_go {doms : List (List Int)} {scope : List Int} {n : Nat} {ahead rows : List (List Int)} {ts r : List Tok} {t : Tok} (h : rowQ doms scope ahead ts = .ok (rows, t :: r)) (hi : isP t [44] = true) : rowsQ doms scope (n + 1) ahead ts = rowsQ doms scope n rows r := by
  rw [rowsQ, h]; simp [isQ, hi]

/-- A constraint in a block of its own. -/
def ConAt (gc : Nat) (w : World) (kind : Int) (vs vr va : Value) : Prop := w.heap[gc]? = some (.cells #[.int .i64 kind, vs, vr, va] 34 (0, 0))
def TabOut (g gc : Nat) (w w' : World) (kind : Int) (vs va dv hv sv : Value) (e : Ending) (rows : List (List Int)) (r : List Tok) : Prop :=
  ∃ rv ok', e = .returned (.tuple #[]) ∧ ConAt gc w' kind vs rv va ∧ OwnD kRow 32 w.heap.size ok' rv rows w' ∧ (∀ k, ok' k → w.heap.size ≤ k ∧ k < w'.heap.size) ∧ PB g w' r dv hv sv ∧ Toks r ∧ rows.length ≤ 1000000
def TabRel (g gc : Nat) (w w0 : World) (doms : List (List Int)) (scope : List Int) (kind : Int) (vs va dv hv sv : Value) (res : PR (List (List Int))) (k : Nat) (wr : World) : Prop :=
  ∃ ts' ahead rv ok' n, k = ts'.length ∧ res = rowsQ doms scope (n + 1) ahead ts' ∧ ts'.length ≤ n ∧ ahead.length + ts'.length ≤ 200000 ∧ ConAt gc wr kind vs rv va ∧ OwnD kRow 32 w.heap.size ok' rv ahead wr ∧ (∀ k, ok' k → w.heap.size ≤ k ∧ k < wr.heap.size) ∧ PB g wr ts' dv hv sv ∧ Toks ts' ∧
    Chg (fun k => k = g ∨ k = gc) w wr ∧ w0.heap.size ≤ wr.heap.size

set_option maxRecDepth 100000 in
set_option maxHeartbeats 4000000 in
theorem rows_p (g gc : Nat) (w : World) (ts : List Tok) (doms : List (List Int)) (DA : Option Addr) (Dc : Nat) (hv sv va : Value) (okD okS : Nat → Prop) (scope : List Int) (SA : Option Addr) (Sc : Nat) (kind : Int)
    (h : PB g w ts (.slice DA doms.length Dc) hv sv) (hT : Toks ts) (htl : ts.length ≤ 150000) (hD : Sl kRow w okD (.slice DA doms.length Dc) doms) (hDg : ∀ k, okD k → g < k ∧ k ≠ gc)
    (hS : Sl (Kd.int .i64) w okS (.slice SA scope.length Sc) scope) (hSg : ∀ k, okS k → g < k ∧ k ≠ gc) (hs6 : scope.length ≤ 6) (hsr : ∀ v ∈ scope, 0 ≤ v ∧ v < doms.length) (hgc : g < gc) (hc : ConAt gc w kind (.slice SA scope.length Sc) (.slice none 0 0) va) :
    Calls Tryz.prog 105 #[.pointer (some ⟨g, 0, none⟩), .pointer (some ⟨gc, 0, none⟩)] w fun e w' => Out (tableQ doms scope ts) (TabOut g gc w w' kind (.slice SA scope.length Sc) va (.slice DA doms.length Dc) hv sv e) e ∧ Chg (fun k => k = g ∨ k = gc) w w' := by
  have hgw := h.lt
  obtain ⟨t, r, rfl⟩ := hT.cons
  have hsg := Lib.hid (sign_any g w t r _ hv sv [58] h hT)
  by_cases hi : isP t [58] = true
  · have hT2 := hT.tail (isP_kind hi)
    obtain ⟨t2, r2, rfl⟩ := hT2.cons
    simp only [hi, if_true] at hsg
    have hq : tableQ doms scope (t :: t2 :: r2) = if t2.kind = 3 ∧ t2.text = [59] then .ok ([], t2 :: r2) else rowsQ doms scope ((t2 :: r2).length + 1) [] (t2 :: r2) := by simp [tableQ, signQ, hi, nth]
    have HQ := Lib.hid hq
    have HT := Lib.hid hT2
    have HD := Lib.hid hD
    have HS := Lib.hid hS
    have HC := Lib.hid hc
    have hgcw := lt_of_block hc
    clear h hT hT2 hq hD hS hc hi
    go_enter Tryz.func105, Tryz.ntmps105
    go_wp2_with (go_at_call 71; refine hsg.out.mono ?_)
    rintro e w1 ⟨⟨rfl, hp⟩, hg⟩
    have HP := Lib.hid hp
    have HG := Lib.hid (chg_g hg (fun k => k = g ∨ k = gc) (Or.inl rfl))
    have hsz1 := hg.size
    have hgr := Lib.hid hg
    obtain ⟨A, n, c, hgb, hs⟩ := hp
    obtain ⟨b, o, rfl, hb, hn, hnc, hmc, c0, c1, c2, c3⟩ := tok_head hs
    have g0 := cell_at hgb (i := 0) rfl
    have hn0 : 0 < n := by omega
    have hgw1 : g < w1.heap.size := by omega
    clear hsg hg hgb hs hn
    have HX : Hid (decide (t2.text = [59]) = ((ByteArray.mk t2.text.toArray).toList == (ByteArray.mk [59].toArray).toList)) := Lib.hid (bytes_eq _ _).symm
    generalize (ByteArray.mk t2.text.toArray) = tb at c1 HX
    have hlit : (ByteArray.mk [59].toArray).toList = [59] := by rw [ByteArray.toList_eq]
    rw [hlit] at HX
    clear hlit
    have hgk : Chg (fun k => k = g ∨ k = gc) w (w1.alloc (.cells #[.int .i64 t2.kind, .string tb, .int .i64 t2.n, .int .i64 t2.at_] 82)) := HG.out.alloc _
    have HG2 := Lib.hid hgk
    have HP2 := Lib.hid (HP.out.alloc (.cells #[.int .i64 t2.kind, .string tb, .int .i64 t2.n, .int .i64 t2.at_] 82))
    have HC2 := Lib.hid (show ConAt gc (w1.alloc (.cells #[.int .i64 t2.kind, .string tb, .int .i64 t2.n, .int .i64 t2.at_] 82)) kind (.slice SA scope.length Sc) (.slice none 0 0) va from block_kept (below_alloc1 _ _) ((chg_of_grown hgr.out).heap HC.out (fun e => by injection e with e; omega)))
    clear hgk hgr
    by_cases hend : t2.kind = 3 ∧ t2.text = [59]
    · obtain ⟨hk3, ht⟩ := hend
      have hx : (tb.toList == [59]) = true := by rw [← HX.out]; simpa using ht
      have HR : Hid (tableQ doms scope (t :: t2 :: r2) = .ok ([], t2 :: r2)) := Lib.hid (by rw [HQ.out, if_pos ⟨hk3, ht⟩])
      have HP3 : Hid (PB g _ _ _ hv sv) := HP2
      have hk3' : ((t2.kind : Int) == 3) = true := by simpa using hk3
      clear ht HQ hk3
      go_wp2
      refine bodyPost_ret (results_none rfl _ _ _) rfl ?_
      refine ⟨?_, HG2.out⟩
      rw [HR.out]
      exact ⟨_, (fun _ => False), rfl, HC2.out, OwnD.nil _ _ _ _ _, fun _ h => h.elim, HP3.out, HT.out, by simp⟩
    · have HR : Hid (tableQ doms scope (t :: t2 :: r2) = rowsQ doms scope ((t2 :: r2).length + 1) [] (t2 :: r2)) := Lib.hid (by rw [HQ.out, if_neg hend])
      by_cases hk3 : t2.kind = 3
      · have hx : (tb.toList == [59]) = false := by rw [← HX.out]; simpa [hk3] using hend
        have hk3' : ((t2.kind : Int) == 3) = true := by simpa using hk3
        clear HQ hk3 hend
        go_wp2_with fail
        go_loopg [21] (t2 :: r2).length (fun k _ wr => TabRel g gc w w doms scope kind (.slice SA scope.length Sc) va (.slice DA doms.length Dc) hv sv (tableQ doms scope (t :: t2 :: r2)) k wr)
        case atStart => exact ⟨t2 :: r2, [], _, (fun _ => False), (t2 :: r2).length, rfl, HR.out, Nat.le_refl _, by simp at htl ⊢; omega, HC2.out, OwnD.nil _ _ _ _ _, fun _ h => h.elim, HP2.out, HT.out, HG2.out, HG2.out.size⟩
        case round =>
          clear HR HP2 HC2 HG2 HT
          obtain ⟨ts3, ahead, rv, ok3, fu, hk, hq, hfu, hal, hc, ho, hok, hp, hT3, hch, hsz⟩ := hrel
          obtain ⟨RA, Rc, rfl, _, _, _⟩ := ho.sl (by omega)
          have hgc3 := cell_at hc (i := 1) rfl
          have hgc4 := cell_at hc (i := 2) rfl
          have hrc := Lib.hid (row_p g w.heap.size wr.drew ts3 doms DA Dc hv sv okD okS ok3 scope SA Sc ahead _ hp.drew hT3
            (HD.out.chg (by decide) hch.drew (fun k hk e => by have := hDg k hk; omega)) (fun k hk => (hDg k hk).1) (HS.out.chg (by decide) hch.drew (fun k hk e => by have := hSg k hk; omega)) (fun k hk => (hSg k hk).1) hs6 hsr
            (ho.chg (chg_of_below (Below.drew (Below.refl _ _)) (fun _ => False)) (fun _ _ h => h.elim) (fun _ _ h => h.elim)) hgw hsz (fun k hk => by have := hok k hk; exact ⟨by omega, this.2⟩) (by omega))
          have HK := Lib.hid hk
          have HQ := Lib.hid hq
          have HO := Lib.hid ho
          have HC3 := Lib.hid (show ConAt gc wr.drew kind (.slice SA scope.length Sc) (.slice RA ahead.length Rc) va from hc)
          have HG3 := Lib.hid hch.drew
          have HOK := Lib.hid hok
          have hszd : w.heap.size ≤ wr.drew.heap.size := hsz
          clear hk hq hc ho hp hT3 hch hok
          have hgc3' : (World.drew wr).cell? ⟨gc, 1, none⟩ = _ := hgc3
          have hgc4' : (World.drew wr).cell? ⟨gc, 2, none⟩ = _ := hgc4
          have hfr : ∀ w', Chg (fun k => k = g ∨ (Value.slice RA ahead.length Rc).ownBlock = some k) (World.drew wr) w' → Chg (fun k => k = g ∨ k = gc) w w' := fun w' h => HG3.out.trans h (fun j hj hs => by
            rcases hs with hs | hs
            · exact Or.inl hs
            · have := (HO.out.own j hs).1; omega)
          have HF := Lib.hid hfr
          have hgn : ∀ k, (Value.slice RA ahead.length Rc).ownBlock = some k → k ≠ gc := fun k hk => by have := (HO.out.own k hk).1; omega
          have HGN := Lib.hid hgn
          have hwrd : wr.heap.size ≤ (World.drew wr).heap.size := Nat.le_refl _
          clear hfr hgn
          rcases hrq : rowQ doms scope ahead ts3 with ⟨p, x⟩ | ⟨rows, r3⟩
          · have HR : Hid (tableQ doms scope (t :: t2 :: r2) = .error (p, x)) := Lib.hid (by rw [HQ.out]; exact rowsQ_err hrq)
            rw [hrq] at hrc
            clear hrq HQ
            go_wp2_with fail
            refine wp_region_lex (fun w' => w'.cell? ⟨gc, 1, none⟩ = some (.slice SA scope.length Sc) ∧ w'.cell? ⟨gc, 2, none⟩ = some (.slice RA ahead.length Rc)) [true, true, true, true, true, true, true, true, true, true, false, false, false, false] (by kernel_rfl) (by kernel_rfl) (fun c a d v w h => by cases d <;> exact h) ?_
            change wpLex _ _ _ _ _ _ _ _ _ (World.drew wr)
            generalize World.drew wr = W at *
            repeat (first | (refine lex_take ⟨hgc3', hgc4'⟩ rfl (fun w' hw' => by (obtain ⟨x1, x2⟩ := hw'; (try go_simp); try rfl)) (fun K hK => ?_); go_simp; refine hK _ _ ?_; clear hK K) | (refine lex_take_on _ _ _ _ ⟨hgc3', hgc4'⟩ rfl rfl rfl rfl (fun w' hw' => by (obtain ⟨x1, x2⟩ := hw'; (try go_simp); try rfl)) (fun K hK => ?_); go_simp; refine hK _ _ ?_; clear hK K) | (refine lex_take_off _ _ _ _ _ ⟨hgc3', hgc4'⟩ rfl rfl rfl rfl rfl (fun K hK => ?_); go_simp; refine hK _ _ ?_; clear hK K))
            refine lex_step rfl (fun K hK => ?_)
            go_wp2_with (go_at_call 103; refine hrc.out.mono ?_; rintro e w' ⟨he, hg⟩; obtain rfl : e = wrongs p x := he)
            refine ⟨rfl, ?_⟩
            rw [HR.out]
            exact ⟨rfl, HF.out _ hg⟩
          · have hln0 := rowQ_len hrq
            have hln := hln0.1
            have hrl : rows.length ≤ ahead.length + 1 := by omega
            clear hln0
            rw [hrq] at hrc
            go_wp2_with fail
            refine wp_region_lex (fun w' => w'.cell? ⟨gc, 1, none⟩ = some (.slice SA scope.length Sc) ∧ w'.cell? ⟨gc, 2, none⟩ = some (.slice RA ahead.length Rc)) [true, true, true, true, true, true, true, true, true, true, false, false, false, false] (by kernel_rfl) (by kernel_rfl) (fun c a d v w h => by cases d <;> exact h) ?_
            change wpLex _ _ _ _ _ _ _ _ _ (World.drew wr)
            generalize World.drew wr = W at *
            repeat (first | (refine lex_take ⟨hgc3', hgc4'⟩ rfl (fun w' hw' => by (obtain ⟨x1, x2⟩ := hw'; (try go_simp); try rfl)) (fun K hK => ?_); go_simp; refine hK _ _ ?_; clear hK K) | (refine lex_take_on _ _ _ _ ⟨hgc3', hgc4'⟩ rfl rfl rfl rfl (fun w' hw' => by (obtain ⟨x1, x2⟩ := hw'; (try go_simp); try rfl)) (fun K hK => ?_); go_simp; refine hK _ _ ?_; clear hK K) | (refine lex_take_off _ _ _ _ _ ⟨hgc3', hgc4'⟩ rfl rfl rfl rfl rfl (fun K hK => ?_); go_simp; refine hK _ _ ?_; clear hK K))
            refine lex_step rfl (fun K hK => ?_)
            go_wp2_with (go_at_call 103; refine hrc.out.mono ?_; rintro e w' ⟨⟨v4, ok4, rfl, ho4, hok4, hp4, hT4, hat4⟩, hg⟩)
            obtain ⟨RA4, Rc4, rfl, _, _, _⟩ := ho4.sl (by omega)
            obtain ⟨t5, r5, rfl⟩ := hT4.cons
            have hc4 : ConAt gc w' kind (.slice SA scope.length Sc) (.slice RA ahead.length Rc) va := hg.heap HC3.out (fun h => by
              rcases h with h | h
              · omega
              · exact HGN.out _ h rfl)
            have hx1 := cell_at hc4 (i := 1) rfl
            have hx2 := cell_at hc4 (i := 2) rfl
            have hxf := Lib.frozen_of_heap hc4 2
            have hsz4 := hg.size
            have HG4 := Lib.hid (HF.out _ hg)
            have HO4 := Lib.hid ho4
            have HOK4 := Lib.hid hok4
            have HP4 := Lib.hid hp4
            have HT4 := Lib.hid hT4
            have HC4 := Lib.hid hc4
            have HRQ := Lib.hid hrq
            clear hg ho4 hok4 hp4 hT4 hc4 hrc hrq HC3 hat4
            refine hK _ _ ⟨hx1, hx2⟩ ?_
            clear hK K
            refine lex_list _ _ _ _ _ rfl (by kernel_rfl) ?_
            have HC5 : Hid (ConAt gc (w'.setCell ⟨gc, 2, none⟩ (.slice RA4 rows.length Rc4)) kind (.slice SA scope.length Sc) (.slice RA4 rows.length Rc4) va) := Lib.hid (by have := HC4.out; unfold ConAt at this ⊢; simp [World.setCell, Array.getElem?_modify, this])
            have HG5 := Lib.hid (HG4.out.trans (chg_setCell w' gc 2 (.slice RA4 rows.length Rc4)) (fun j _ h => Or.inr h))
            have HP5 := Lib.hid (HP4.out.chg (chg_setCell w' gc 2 (.slice RA4 rows.length Rc4)) (fun k hk e => by omega))
            have HO5 := Lib.hid (HO4.out.chg (chg_setCell w' gc 2 (.slice RA4 rows.length Rc4)) (fun k hk e => by
              rcases HOK4.out k hk with h | h
              · have := HOK.out k h; omega
              · omega) (fun k hk e => by have := (HO4.out.own k hk).1; omega))
            have hisc := Lib.hid (is_any g _ t5 r5 _ hv sv [44] HP5.out)
            have hgl := hxf
            have HL4 : Hid (∀ w'', Chg (fun k => k = g) (w'.setCell ⟨gc, 2, none⟩ (.slice RA4 rows.length Rc4)) w'' → ConAt gc w'' kind (.slice SA scope.length Sc) (.slice RA4 rows.length Rc4) va ∧ OwnD kRow 32 w.heap.size ok4 (.slice RA4 rows.length Rc4) rows w'' ∧ (∀ k, ok4 k → w.heap.size ≤ k ∧ k < w''.heap.size) ∧ Chg (fun k => k = g ∨ k = gc) w w'' ∧ w.heap.size ≤ w''.heap.size) := Lib.hid (fun w'' h => by
              have hs := h.size
              rw [Go.Deep.nblk_setCell] at hs
              refine ⟨h.heap HC5.out (fun e => by omega), HO5.out.chg h (fun k hk e => ?_) (fun k hk e => by have := (HO4.out.own k hk).1; omega), fun k hk => ?_, HG5.out.trans h (fun j _ e => Or.inl e), by omega⟩
              · rcases HOK4.out k hk with h | h
                · have := HOK.out k h; omega
                · omega
              · rcases HOK4.out k hk with h | h
                · have := HOK.out k h; omega
                · omega)
            by_cases hi5 : isP t5 [44] = true
            · have hT5 := HT4.out.tail (isP_kind hi5)
              simp only [hi5, if_true] at hisc
              have HR : Hid (tableQ doms scope (t :: t2 :: r2) = rowsQ doms scope fu rows r5) := Lib.hid (by rw [HQ.out]; exact rowsQ_go HRQ.out hi5)
              have hln2 := hln
              simp only [List.length_cons] at hln2
              obtain ⟨f2, hf2⟩ : ∃ f2, fu = f2 + 1 := ⟨fu - 1, by omega⟩
              rw [hf2] at HR
              have HK2 := Lib.hid (show r5.length < gk by have := HK.out; omega)
              clear HQ HRQ hi5
              go_wp2_with (go_at_call 102; refine hisc.out.mono ?_; rintro e w6 ⟨rfl, hp6, hg6⟩; (have HP6 := Lib.hid hp6); (have HG6 := Lib.hid hg6); clear hp6 hg6)
              obtain ⟨q1, q2, q3, q4, q5⟩ := HL4.out _ (chg_g HG6.out (fun k => k = g) rfl)
              go_roundg r5.length
              case rel => exact ⟨r5, rows, _, ok4, f2, rfl, HR.out, by omega, by omega, q1, q2, q3, HP6.out, hT5, q4, q5⟩
              case measure => exact HK2.out
            · have hi5 := Bool.eq_false_iff.2 hi5
              simp only [hi5, if_false, Bool.false_eq_true] at hisc
              have HR : Hid (tableQ doms scope (t :: t2 :: r2) = .ok (rows, t5 :: r5)) := Lib.hid (by rw [HQ.out]; exact rowsQ_end HRQ.out hi5)
              clear HQ HRQ hi5
              go_wp2_with (go_at_call 102; refine hisc.out.mono ?_; rintro e w6 ⟨rfl, hp6, hg6⟩; (have HP6 := Lib.hid hp6); (have HG6 := Lib.hid hg6); clear hp6 hg6)
              obtain ⟨q1, q2, q3, q4, q5⟩ := HL4.out _ (chg_g HG6.out (fun k => k = g) rfl)
              refine bodyPost_ret (results_none rfl _ _ _) rfl ?_
              refine ⟨?_, q4⟩
              rw [HR.out]
              exact ⟨_, ok4, rfl, q1, q2, q3, HP6.out, HT4.out, by omega⟩
      · have hk3' : ((t2.kind : Int) == 3) = false := by simpa using hk3
        clear HQ hk3 hend
        go_wp2_with fail
        go_loopg [21] (t2 :: r2).length (fun k _ wr => TabRel g gc w w doms scope kind (.slice SA scope.length Sc) va (.slice DA doms.length Dc) hv sv (tableQ doms scope (t :: t2 :: r2)) k wr)
        case atStart => exact ⟨t2 :: r2, [], _, (fun _ => False), (t2 :: r2).length, rfl, HR.out, Nat.le_refl _, by simp at htl ⊢; omega, HC2.out, OwnD.nil _ _ _ _ _, fun _ h => h.elim, HP2.out, HT.out, HG2.out, HG2.out.size⟩
        case round =>
          clear HR HP2 HC2 HG2 HT
          obtain ⟨ts3, ahead, rv, ok3, fu, hk, hq, hfu, hal, hc, ho, hok, hp, hT3, hch, hsz⟩ := hrel
          obtain ⟨RA, Rc, rfl, _, _, _⟩ := ho.sl (by omega)
          have hgc3 := cell_at hc (i := 1) rfl
          have hgc4 := cell_at hc (i := 2) rfl
          have hrc := Lib.hid (row_p g w.heap.size wr.drew ts3 doms DA Dc hv sv okD okS ok3 scope SA Sc ahead _ hp.drew hT3
            (HD.out.chg (by decide) hch.drew (fun k hk e => by have := hDg k hk; omega)) (fun k hk => (hDg k hk).1) (HS.out.chg (by decide) hch.drew (fun k hk e => by have := hSg k hk; omega)) (fun k hk => (hSg k hk).1) hs6 hsr
            (ho.chg (chg_of_below (Below.drew (Below.refl _ _)) (fun _ => False)) (fun _ _ h => h.elim) (fun _ _ h => h.elim)) hgw hsz (fun k hk => by have := hok k hk; exact ⟨by omega, this.2⟩) (by omega))
          have HK := Lib.hid hk
          have HQ := Lib.hid hq
          have HO := Lib.hid ho
          have HC3 := Lib.hid (show ConAt gc wr.drew kind (.slice SA scope.length Sc) (.slice RA ahead.length Rc) va from hc)
          have HG3 := Lib.hid hch.drew
          have HOK := Lib.hid hok
          have hszd : w.heap.size ≤ wr.drew.heap.size := hsz
          clear hk hq hc ho hp hT3 hch hok
          have hgc3' : (World.drew wr).cell? ⟨gc, 1, none⟩ = _ := hgc3
          have hgc4' : (World.drew wr).cell? ⟨gc, 2, none⟩ = _ := hgc4
          have hfr : ∀ w', Chg (fun k => k = g ∨ (Value.slice RA ahead.length Rc).ownBlock = some k) (World.drew wr) w' → Chg (fun k => k = g ∨ k = gc) w w' := fun w' h => HG3.out.trans h (fun j hj hs => by
            rcases hs with hs | hs
            · exact Or.inl hs
            · have := (HO.out.own j hs).1; omega)
          have HF := Lib.hid hfr
          have hgn : ∀ k, (Value.slice RA ahead.length Rc).ownBlock = some k → k ≠ gc := fun k hk => by have := (HO.out.own k hk).1; omega
          have HGN := Lib.hid hgn
          have hwrd : wr.heap.size ≤ (World.drew wr).heap.size := Nat.le_refl _
          clear hfr hgn
          rcases hrq : rowQ doms scope ahead ts3 with ⟨p, x⟩ | ⟨rows, r3⟩
          · have HR : Hid (tableQ doms scope (t :: t2 :: r2) = .error (p, x)) := Lib.hid (by rw [HQ.out]; exact rowsQ_err hrq)
            rw [hrq] at hrc
            clear hrq HQ
            go_wp2_with fail
            refine wp_region_lex (fun w' => w'.cell? ⟨gc, 1, none⟩ = some (.slice SA scope.length Sc) ∧ w'.cell? ⟨gc, 2, none⟩ = some (.slice RA ahead.length Rc)) [true, true, true, true, true, true, true, true, true, true, false, false, false, false] (by kernel_rfl) (by kernel_rfl) (fun c a d v w h => by cases d <;> exact h) ?_
            change wpLex _ _ _ _ _ _ _ _ _ (World.drew wr)
            generalize World.drew wr = W at *
            repeat (first | (refine lex_take ⟨hgc3', hgc4'⟩ rfl (fun w' hw' => by (obtain ⟨x1, x2⟩ := hw'; (try go_simp); try rfl)) (fun K hK => ?_); go_simp; refine hK _ _ ?_; clear hK K) | (refine lex_take_on _ _ _ _ ⟨hgc3', hgc4'⟩ rfl rfl rfl rfl (fun w' hw' => by (obtain ⟨x1, x2⟩ := hw'; (try go_simp); try rfl)) (fun K hK => ?_); go_simp; refine hK _ _ ?_; clear hK K) | (refine lex_take_off _ _ _ _ _ ⟨hgc3', hgc4'⟩ rfl rfl rfl rfl rfl (fun K hK => ?_); go_simp; refine hK _ _ ?_; clear hK K))
            refine lex_step rfl (fun K hK => ?_)
            go_wp2_with (go_at_call 103; refine hrc.out.mono ?_; rintro e w' ⟨he, hg⟩; obtain rfl : e = wrongs p x := he)
            refine ⟨rfl, ?_⟩
            rw [HR.out]
            exact ⟨rfl, HF.out _ hg⟩
          · have hln0 := rowQ_len hrq
            have hln := hln0.1
            have hrl : rows.length ≤ ahead.length + 1 := by omega
            clear hln0
            rw [hrq] at hrc
            go_wp2_with fail
            refine wp_region_lex (fun w' => w'.cell? ⟨gc, 1, none⟩ = some (.slice SA scope.length Sc) ∧ w'.cell? ⟨gc, 2, none⟩ = some (.slice RA ahead.length Rc)) [true, true, true, true, true, true, true, true, true, true, false, false, false, false] (by kernel_rfl) (by kernel_rfl) (fun c a d v w h => by cases d <;> exact h) ?_
            change wpLex _ _ _ _ _ _ _ _ _ (World.drew wr)
            generalize World.drew wr = W at *
            repeat (first | (refine lex_take ⟨hgc3', hgc4'⟩ rfl (fun w' hw' => by (obtain ⟨x1, x2⟩ := hw'; (try go_simp); try rfl)) (fun K hK => ?_); go_simp; refine hK _ _ ?_; clear hK K) | (refine lex_take_on _ _ _ _ ⟨hgc3', hgc4'⟩ rfl rfl rfl rfl (fun w' hw' => by (obtain ⟨x1, x2⟩ := hw'; (try go_simp); try rfl)) (fun K hK => ?_); go_simp; refine hK _ _ ?_; clear hK K) | (refine lex_take_off _ _ _ _ _ ⟨hgc3', hgc4'⟩ rfl rfl rfl rfl rfl (fun K hK => ?_); go_simp; refine hK _ _ ?_; clear hK K))
            refine lex_step rfl (fun K hK => ?_)
            go_wp2_with (go_at_call 103; refine hrc.out.mono ?_; rintro e w' ⟨⟨v4, ok4, rfl, ho4, hok4, hp4, hT4, hat4⟩, hg⟩)
            obtain ⟨RA4, Rc4, rfl, _, _, _⟩ := ho4.sl (by omega)
            obtain ⟨t5, r5, rfl⟩ := hT4.cons
            have hc4 : ConAt gc w' kind (.slice SA scope.length Sc) (.slice RA ahead.length Rc) va := hg.heap HC3.out (fun h => by
              rcases h with h | h
              · omega
              · exact HGN.out _ h rfl)
            have hx1 := cell_at hc4 (i := 1) rfl
            have hx2 := cell_at hc4 (i := 2) rfl
            have hxf := Lib.frozen_of_heap hc4 2
            have hsz4 := hg.size
            have HG4 := Lib.hid (HF.out _ hg)
            have HO4 := Lib.hid ho4
            have HOK4 := Lib.hid hok4
            have HP4 := Lib.hid hp4
            have HT4 := Lib.hid hT4
            have HC4 := Lib.hid hc4
            have HRQ := Lib.hid hrq
            clear hg ho4 hok4 hp4 hT4 hc4 hrc hrq HC3 hat4
            refine hK _ _ ⟨hx1, hx2⟩ ?_
            clear hK K
            refine lex_list _ _ _ _ _ rfl (by kernel_rfl) ?_
            have HC5 : Hid (ConAt gc (w'.setCell ⟨gc, 2, none⟩ (.slice RA4 rows.length Rc4)) kind (.slice SA scope.length Sc) (.slice RA4 rows.length Rc4) va) := Lib.hid (by have := HC4.out; unfold ConAt at this ⊢; simp [World.setCell, Array.getElem?_modify, this])
            have HG5 := Lib.hid (HG4.out.trans (chg_setCell w' gc 2 (.slice RA4 rows.length Rc4)) (fun j _ h => Or.inr h))
            have HP5 := Lib.hid (HP4.out.chg (chg_setCell w' gc 2 (.slice RA4 rows.length Rc4)) (fun k hk e => by omega))
            have HO5 := Lib.hid (HO4.out.chg (chg_setCell w' gc 2 (.slice RA4 rows.length Rc4)) (fun k hk e => by
              rcases HOK4.out k hk with h | h
              · have := HOK.out k h; omega
              · omega) (fun k hk e => by have := (HO4.out.own k hk).1; omega))
            have hisc := Lib.hid (is_any g _ t5 r5 _ hv sv [44] HP5.out)
            have hgl := hxf
            have HL4 : Hid (∀ w'', Chg (fun k => k = g) (w'.setCell ⟨gc, 2, none⟩ (.slice RA4 rows.length Rc4)) w'' → ConAt gc w'' kind (.slice SA scope.length Sc) (.slice RA4 rows.length Rc4) va ∧ OwnD kRow 32 w.heap.size ok4 (.slice RA4 rows.length Rc4) rows w'' ∧ (∀ k, ok4 k → w.heap.size ≤ k ∧ k < w''.heap.size) ∧ Chg (fun k => k = g ∨ k = gc) w w'' ∧ w.heap.size ≤ w''.heap.size) := Lib.hid (fun w'' h => by
              have hs := h.size
              rw [Go.Deep.nblk_setCell] at hs
              refine ⟨h.heap HC5.out (fun e => by omega), HO5.out.chg h (fun k hk e => ?_) (fun k hk e => by have := (HO4.out.own k hk).1; omega), fun k hk => ?_, HG5.out.trans h (fun j _ e => Or.inl e), by omega⟩
              · rcases HOK4.out k hk with h | h
                · have := HOK.out k h; omega
                · omega
              · rcases HOK4.out k hk with h | h
                · have := HOK.out k h; omega
                · omega)
            by_cases hi5 : isP t5 [44] = true
            · have hT5 := HT4.out.tail (isP_kind hi5)
              simp only [hi5, if_true] at hisc
              have HR : Hid (tableQ doms scope (t :: t2 :: r2) = rowsQ doms scope fu rows r5) := Lib.hid (by rw [HQ.out]; exact rowsQ_go HRQ.out hi5)
              have hln2 := hln
              simp only [List.length_cons] at hln2
              obtain ⟨f2, hf2⟩ : ∃ f2, fu = f2 + 1 := ⟨fu - 1, by omega⟩
              rw [hf2] at HR
              have HK2 := Lib.hid (show r5.length < gk by have := HK.out; omega)
              clear HQ HRQ hi5
              go_wp2_with (go_at_call 102; refine hisc.out.mono ?_; rintro e w6 ⟨rfl, hp6, hg6⟩; (have HP6 := Lib.hid hp6); (have HG6 := Lib.hid hg6); clear hp6 hg6)
              obtain ⟨q1, q2, q3, q4, q5⟩ := HL4.out _ (chg_g HG6.out (fun k => k = g) rfl)
              go_roundg r5.length
              case rel => exact ⟨r5, rows, _, ok4, f2, rfl, HR.out, by omega, by omega, q1, q2, q3, HP6.out, hT5, q4, q5⟩
              case measure => exact HK2.out
            · have hi5 := Bool.eq_false_iff.2 hi5
              simp only [hi5, if_false, Bool.false_eq_true] at hisc
              have HR : Hid (tableQ doms scope (t :: t2 :: r2) = .ok (rows, t5 :: r5)) := Lib.hid (by rw [HQ.out]; exact rowsQ_end HRQ.out hi5)
              clear HQ HRQ hi5
              go_wp2_with (go_at_call 102; refine hisc.out.mono ?_; rintro e w6 ⟨rfl, hp6, hg6⟩; (have HP6 := Lib.hid hp6); (have HG6 := Lib.hid hg6); clear hp6 hg6)
              obtain ⟨q1, q2, q3, q4, q5⟩ := HL4.out _ (chg_g HG6.out (fun k => k = g) rfl)
              refine bodyPost_ret (results_none rfl _ _ _) rfl ?_
              refine ⟨?_, q4⟩
              rw [HR.out]
              exact ⟨_, ok4, rfl, q1, q2, q3, HP6.out, HT4.out, by omega⟩
  · have hi := Bool.eq_false_iff.2 hi
    have HR : Hid (tableQ doms scope (t :: r) = .error (t.at_, 3)) := Lib.hid (by simp [tableQ, signQ, hi])
    simp only [hi, if_false, Bool.false_eq_true] at hsg
    clear hi h hT
    go_enter Tryz.func105, Tryz.ntmps105
    go_wp2_with (go_at_call 71; refine hsg.out.mono ?_; rintro e w1 ⟨rfl, hg⟩; refine ⟨rfl, ?_⟩; rw [HR.out]; exact ⟨rfl, chg_g hg _ (Or.inl rfl)⟩)
end Go.Proofs.YtgpgmmkkmoecmaaGreatDoor

/- Where a word stands in a row of words; slices.Index over the rows of words. -/
namespace Go.Proofs.YtgpgmmkkmoecmaaGreatDoor
open Go.RowKit

theorem idx_word (s : List UInt8) : ∀ (ws : List (List UInt8)) (i : Nat), Lib.idxFromS (ws.map fun l => (⟨l.toArray⟩ : ByteArray)) ⟨s.toArray⟩ i = wordFrom s i ws
  | [], _ => rfl
  | a :: r, i => by
    rw [List.map_cons, Lib.idxFromS, wordFrom, idx_word s r (i + 1)]
    by_cases h : a = s
    · subst h; simp
    · rw [if_neg h, if_neg]
      intro e
      have := congrArg (fun b : ByteArray => b.data.toList) e
      simp at this
      exact h this
theorem words_index (s : List UInt8) (ws : List (List UInt8)) (g : Nat) (w : World) {t : TypeId} {fr : Nat × Nat} (hg : w.heap[g]? = some (.cells (ws.map fun l => Value.string ⟨l.toArray⟩).toArray t fr)) (hl : ws.length ≤ 1000) (c : Nat) :
    Calls Tryz.prog 66 #[.slice (some ⟨g, 0, none⟩) ws.length c, .string ⟨s.toArray⟩] w fun e w' => e = .returned (.int .i64 (wordFrom s 0 ws)) ∧ w' = w := by
  have := Tryz.slices_Index_string g 0 ws.length c (ws.map fun l => (⟨l.toArray⟩ : ByteArray)) ⟨s.toArray⟩ w (by simp) (by omega) (fun j hj => by
    rw [Nat.zero_add]
    simp at hj
    exact cell_at hg (by simp [hj]))
  rw [List.take_of_length_le (by simp)] at this
  rw [← idx_word s ws 0]
  exact this
theorem wordFrom_lo (s : List UInt8) : ∀ (ws : List (List UInt8)) (i : Nat), wordFrom s i ws = -1 ∨ (i ≤ wordFrom s i ws ∧ wordFrom s i ws < i + ws.length)
  | [], _ => .inl rfl
  | a :: r, i => by
    rw [wordFrom]
    split
    · right; simp; omega
    · rcases wordFrom_lo s r (i + 1) with h | h
      · exact .inl h
      · right; simp; omega
end Go.Proofs.YtgpgmmkkmoecmaaGreatDoor

/- inst.parser: linear. -/
namespace Go.Proofs.YtgpgmmkkmoecmaaGreatDoor
open Go.RowKit
attribute [local irreducible] wpStill wpLex Calls

theorem termsQ_num {nd n : Nat} {args scope : List Int} {ts : List Tok} {e : Int × Int} (h : numberQ 1000000 ts = .error e) : termsQ nd (n + 1) args scope ts = .error e := by rw [termsQ, h]
theorem termsQ_zero {nd n : Nat} {args scope : List Int} {ts : List Tok} {t : Tok} {r : List Tok} (h : numberQ 1000000 ts = .ok (t, r)) (h0 : t.n = 0) : termsQ nd (n + 1) args scope ts = .error (t.at_, 4) := by
  rw [termsQ, h]; simp only; rw [if_pos h0]
theorem termsQ_var {nd n : Nat} {args scope : List Int} {ts : List Tok} {t : Tok} {r : List Tok} {e : Int × Int} (h : numberQ 1000000 ts = .ok (t, r)) (h0 : ¬ t.n = 0) (hv : varQ nd scope r = .error e) : termsQ nd (n + 1) args scope ts = .error e := by
  rw [termsQ, h]; simp only; rw [if_neg h0, hv]
theorem termsQ_go {nd n : Nat} {args scope scope' : List Int} {ts r2 : List Tok} {t t2 : Tok} {r : List Tok} (h : numberQ 1000000 ts = .ok (t, r)) (h0 : ¬ t.n = 0) (hv : varQ nd scope r = .ok (scope', t2 :: r2)) (hi : isP t2 [44] = true) :
    termsQ nd (n + 1) args scope ts = termsQ nd n (args ++ [t.n]) scope' r2 := by
  rw [termsQ, h]; simp only; rw [if_neg h0, hv]; simp [isQ, hi]
theorem termsQ_end {nd n : Nat} {args scope scope' : List Int} {ts r2 : List Tok} {t t2 : Tok} {r : List Tok} (h : numberQ 1000000 ts = .ok (t, r)) (h0 : ¬ t.n = 0) (hv : varQ nd scope r = .ok (scope', t2 :: r2)) (hi : isP t2 [44] = false) :
    termsQ nd (n + 1) args scope ts = .ok ((args ++ [t.n], scope'), t2 :: r2) := by
  rw [termsQ, h]; simp only; rw [if_neg h0, hv]; simp [isQ, hi]
/-- What is behind the terms of a linear constraint. -/
def linTail (args scope : List Int) (r : List Tok) : PR (List Int × List Int) :=
  match signQ [58] r with
    | .error e => .error e
    | .ok (_, r1) =>
      let t := (nextQ r1).1
      let how := wordFrom t.text 0 howsT
      if t.kind = 1 ∧ 0 ≤ how then (match numberQ 1000000 (nextQ r1).2 with
        | .error e => .error e
        | .ok (u, r2) => .ok ((args ++ [how, u.n], scope), r2)) else .error (t.at_, 3)
theorem linearQ_eq (nd : Nat) (ts : List Tok) : linearQ nd ts = match termsQ nd (ts.length + 1) [] [] ts with
    | .error e => .error e
    | .ok (p, r) => linTail p.1 p.2 r := by
  rw [linearQ]
  cases termsQ nd (ts.length + 1) [] [] ts with
  | error e => rfl
  | ok q => rfl
theorem linTail_sign {args scope : List Int} {r : List Tok} {e : Int × Int} (h : signQ [58] r = .error e) : linTail args scope r = .error e := by rw [linTail, h]
theorem linTail_word {args scope : List Int} {r r1 : List Tok} {t : Tok} (h : signQ [58] r = .ok ((), t :: r1)) (hn : ¬ (t.kind = 1 ∧ 0 ≤ wordFrom t.text 0 howsT)) : linTail args scope r = .error (t.at_, 3) := by
  simp only [linTail, h, nextQ]; exact if_neg hn
theorem linTail_num {args scope : List Int} {r r1 : List Tok} {t : Tok} {e : Int × Int} (h : signQ [58] r = .ok ((), t :: r1)) (hk : t.kind = 1) (hn : 0 ≤ wordFrom t.text 0 howsT) (hu : numberQ 1000000 r1 = .error e) : linTail args scope r = .error e := by
  have h4 : ¬ t.kind = 4 := by omega
  simp only [linTail, h, nextQ, if_neg h4, if_pos (And.intro hk hn), hu]
theorem linTail_ok {args scope : List Int} {r r1 r2 : List Tok} {t u : Tok} (h : signQ [58] r = .ok ((), t :: r1)) (hk : t.kind = 1) (hn : 0 ≤ wordFrom t.text 0 howsT) (hu : numberQ 1000000 r1 = .ok (u, r2)) : linTail args scope r = .ok ((args ++ [wordFrom t.text 0 howsT, u.n], scope), r2) := by
  have h4 : ¬ t.kind = 4 := by omega
  simp only [linTail, h, nextQ, if_neg h4, if_pos (And.intro hk hn), hu]
theorem numberQ_cases (m : Int) (t : Tok) (r : List Tok) : numberQ m (t :: r) = .error (t.at_, 3) ∧ (t.kind == 2) = false ∨ numberQ m (t :: r) = .error (t.at_, 4) ∧ (t.kind == 2) = true ∧ smallB t.n m = false ∨ numberQ m (t :: r) = .ok (t, r) ∧ (t.kind == 2) = true ∧ smallB t.n m = true := by
  by_cases hk : (t.kind == 2) = true
  · by_cases hs : smallB t.n m = true
    · exact .inr (.inr ⟨by simp [numberQ, hk, hs], hk, hs⟩)
    · exact .inr (.inl ⟨by simp [numberQ, hk, hs], hk, Bool.eq_false_iff.2 hs⟩)
  · exact .inl ⟨by simp [numberQ, hk], Bool.eq_false_iff.2 hk⟩
/-- A contract of number for a caller: what numberQ says. -/
def NumOut (g : Nat) (w' : World) (dv hv sv : Value) (e : Ending) (t : Tok) (r : List Tok) : Prop := e = .returned (.agg (tokC t).toArray) ∧ PB g w' r dv hv sv
theorem number_q (g : Nat) (w : World) (t : Tok) (r : List Tok) (dv hv sv : Value) (m : Int) (h3 : 0 ≤ m) (h4 : m ≤ 9223372036854775807) (h : PB g w (t :: r) dv hv sv) :
    Calls Tryz.prog 100 #[.pointer (some ⟨g, 0, none⟩), .int .i64 m] w fun e w' => Out (numberQ m (t :: r)) (NumOut g w' dv hv sv e) e ∧ Chg (fun k => k = g) w w' := by
  refine (number_p g w t r dv hv sv m h3 h4 h).mono fun e w' ⟨hc, hg⟩ => ⟨?_, chg_g hg _ rfl⟩
  rcases numberQ_cases m t r with ⟨h1, h2⟩ | ⟨h1, h2, h3⟩ | ⟨h1, h2, h3⟩
  · rw [h1]; simp [h2] at hc; exact hc
  · rw [h1]; simp [h2, h3] at hc; exact hc
  · rw [h1]; simp [h2, h3] at hc; exact hc
theorem numberQ_ok {m : Int} {ts r : List Tok} {t : Tok} (h : numberQ m ts = .ok (t, r)) : ts = t :: r ∧ ¬ t.kind = 4 := by
  cases ts with
  | nil => cases h
  | cons t0 r0 =>
    rcases numberQ_cases m t0 r0 with ⟨h1, h2⟩ | ⟨h1, h2, h3⟩ | ⟨h1, h2, h3⟩ <;> rw [h1] at h
    · cases h
    · cases h
    · injection h with h; injection h with ha hb; subst ha hb; exact ⟨rfl, fun h => by simp [h] at h2⟩
/-- A sign that must be, for a caller. -/
def SignOut (g : Nat) (w' : World) (dv hv sv : Value) (e : Ending) (_ : Unit) (r : List Tok) : Prop := e = .returned (.tuple #[]) ∧ PB g w' r dv hv sv ∧ Toks r
theorem sign_q (g : Nat) (w : World) (t : Tok) (r : List Tok) (dv hv sv : Value) (s : List UInt8) (h : PB g w (t :: r) dv hv sv) (hT : Toks (t :: r)) :
    Calls Tryz.prog 71 #[.pointer (some ⟨g, 0, none⟩), .string ⟨s.toArray⟩] w fun e w' => Out (signQ s (t :: r)) (SignOut g w' dv hv sv e) e ∧ Chg (fun k => k = g) w w' := by
  refine (sign_any g w t r dv hv sv s h hT).mono fun e w' ⟨hc, hg⟩ => ⟨?_, chg_g hg _ rfl⟩
  by_cases hi : isP t s = true
  · simp only [hi, if_true] at hc
    have : signQ s (t :: r) = .ok ((), r) := by simp [signQ, hi]
    rw [this]
    exact ⟨hc.1, hc.2, hT.tail (isP_kind hi)⟩
  · have hi := Bool.eq_false_iff.2 hi
    simp only [hi, Bool.false_eq_true, if_false] at hc
    have : signQ s (t :: r) = .error (t.at_, 3) := by simp [signQ, hi]
    rw [this]
    exact hc
theorem OwnI.snoc {base : Nat} {v' : Value} {xs : List Int} {c : World} {n : Nat} {ys : List Int} (h : c.ownsRow base 3 1 v' n (xs.map (Value.int .i64) ++ ys.map (Value.int .i64))) (hn : n = (xs ++ ys).length) : OwnI base v' (xs ++ ys) c := by
  unfold OwnI
  rw [List.map_append, ← hn]
  exact h
end Go.Proofs.YtgpgmmkkmoecmaaGreatDoor

/- inst.parser: linear. -/
namespace Go.Proofs.YtgpgmmkkmoecmaaGreatDoor
open Go.RowKit
attribute [local irreducible] wpStill wpLex Calls

/-- What linear leaves in the constraint. -/
def LinOut (g gc : Nat) (w w' : World) (kind : Int) (vr dv hv sv : Value) (e : Ending) (aa : List Int × List Int) (r : List Tok) : Prop :=
  ∃ vs va, e = .returned (.tuple #[]) ∧ ConAt gc w' kind vs vr va ∧ OwnI w.heap.size vs aa.2 w' ∧ OwnI w.heap.size va aa.1 w' ∧ aa.2.length ≤ 6 ∧ aa.1.length ≤ 10 ∧ PB g w' r dv hv sv ∧ Toks r
def LinRel (g gc : Nat) (w : World) (nd : Nat) (kind : Int) (vr dv hv sv : Value) (res : PR (List Int × List Int)) (k : Nat) (wr : World) : Prop :=
  ∃ ts' args scope vs va n, k = ts'.length ∧ res = termsQ nd (n + 1) args scope ts' ∧ ts'.length ≤ n ∧ args.length ≤ scope.length ∧ scope.length ≤ 6 ∧ ConAt gc wr kind vs vr va ∧ OwnI w.heap.size vs scope wr ∧ OwnI w.heap.size va args wr ∧ (∀ k, vs.ownBlock = some k → va.ownBlock ≠ some k) ∧
    PB g wr ts' dv hv sv ∧ Toks ts' ∧ Chg (fun k => k = g ∨ k = gc) w wr

abbrev tokO (t : Tok) (tb : ByteArray) : Obj := .cells #[.int .i64 t.kind, .string tb, .int .i64 t.n, .int .i64 t.at_] 82

set_option maxRecDepth 100000 in
set_option maxHeartbeats 4000000 in
theorem linear_p (g gc : Nat) (w : World) (ts : List Tok) (DA : Option Addr) (nd Dc : Nat) (hv sv vr : Value) (kind : Int)
    (h : PB g w ts (.slice DA nd Dc) hv sv) (hT : Toks ts) (hnd : nd ≤ 140737488355328) (hE : ∃ t fr, w.heap[1]? = some (.cells (howsT.map fun l => Value.string ⟨l.toArray⟩).toArray t fr)) (h8 : 8 ≤ g)
    (hgc : g < gc) (hc : ConAt gc w kind (.slice none 0 0) vr (.slice none 0 0)) :
    Calls Tryz.prog 104 #[.pointer (some ⟨g, 0, none⟩), .pointer (some ⟨gc, 0, none⟩)] w fun e w' => Out (linearQ nd ts) (LinOut g gc w w' kind vr (.slice DA nd Dc) hv sv e) e ∧ Chg (fun k => k = g ∨ k = gc) w w' := by
  have hgw := h.lt
  have hgcw := lt_of_block hc
  have HP := Lib.hid h
  have HT := Lib.hid hT
  have HC := Lib.hid hc
  have HE := Lib.hid hE
  obtain ⟨res, hres⟩ : ∃ res, res = termsQ nd (ts.length + 1) [] [] ts := ⟨_, rfl⟩
  obtain ⟨out, hout⟩ : ∃ out, out = linearQ nd ts := ⟨_, rfl⟩
  have HRES := Lib.hid hres
  have HOUT := Lib.hid (show out = _ from hout.trans (by rw [linearQ_eq, ← hres]))
  rw [← hout]
  clear h hT hc hE hres hout
  go_enter Tryz.func104, Tryz.ntmps104
  go_wp2_with fail
  go_loopg [7] ts.length (fun k _ wr => LinRel g gc w nd kind vr (.slice DA nd Dc) hv sv res k wr)
  case atStart => exact ⟨ts, [], [], _, _, ts.length, rfl, HRES.out, Nat.le_refl _, Nat.le_refl _, by simp, HC.out, World.ownsRow_nil _ _ _ _, World.ownsRow_nil _ _ _ _, fun k h => by simp [Value.ownBlock] at h, HP.out, HT.out, Chg.refl _ _⟩
  case round =>
    clear HP HT HC
    obtain ⟨ts3, args, scope, vs, va, fu, hk, hq, hfu, hla, hls, hc, hs, ha, hap, hp, hT, hch⟩ := hrel
    obtain ⟨t3, r3, rfl⟩ := hT.cons
    obtain ⟨SA, Sc, rfl, _, _, _⟩ := hs.sl (by omega)
    obtain ⟨AA, Ac, rfl, _, _, _⟩ := ha.sl (by omega)
    have hnm := Lib.hid (number_q g wr t3 r3 _ _ _ 1000000 (by decide) (by decide) hp)
    have HK := Lib.hid hk
    have HQ := Lib.hid hq
    have HC := Lib.hid hc
    have HS := Lib.hid hs
    have HA := Lib.hid ha
    have HAP := Lib.hid hap
    have HP := Lib.hid hp
    have HT := Lib.hid hT
    have HG := Lib.hid hch
    have hszr := hch.size
    clear hk hq hc hs ha hap hp hT hch
    rcases hn : numberQ 1000000 (t3 :: r3) with ⟨p, x⟩ | ⟨t4, r4⟩
    · have HR : Hid (out = .error (p, x)) := Lib.hid (by rw [HOUT.out, HQ.out, termsQ_num hn])
      rw [hn] at hnm
      clear hn
      go_wp2_with (go_at_call 100; refine hnm.out.mono ?_; rintro e w' ⟨he, hg⟩; obtain rfl : e = wrongs p x := he; refine ⟨rfl, ?_⟩; rw [HR.out]; exact ⟨rfl, HG.out.trans hg (fun j _ e => Or.inl e)⟩)
    · have hok := numberQ_ok hn
      obtain ⟨h1, h2⟩ := hok
      injection h1 with h1a h1b
      subst h1a h1b
      rw [hn] at hnm
      have hT3 := HT.out.tail h2
      obtain ⟨t4, r4, rfl⟩ := hT3.cons
      have HT4 := Lib.hid hT3
      have HTK : Hid (tokC t3 = [.int .i64 t3.kind, .string ⟨t3.text.toArray⟩, .int .i64 t3.n, .int .i64 t3.at_]) := Lib.hid rfl
      generalize (ByteArray.mk t3.text.toArray) = tb at HTK
      have HN := Lib.hid hn
      clear HT hT3 h2 hn
      by_cases h0 : t3.n = 0
      · have HR : Hid (out = .error (t3.at_, 4)) := Lib.hid (by rw [HOUT.out, HQ.out, termsQ_zero HN.out h0])
        have hb0 : (t3.n != 0) = false := by simp [h0]
        have H0 := Lib.hid h0
        clear h0
        go_wp2_with (first
          | (go_at_call 100; refine hnm.out.mono ?_; rintro e W2 ⟨⟨rfl, hp2⟩, hg2⟩; (have HG2 := Lib.hid (HG.out.trans hg2 (fun j _ e => Or.inl e))); clear hp2 hg2; rw [HTK.out])
          | (go_at_call 67; refine (must_no _ _ _ _ _ _ _ (by first | rfl | exact hb0)).mono ?_; rintro e W3 ⟨rfl, hb3⟩; refine ⟨rfl, ?_⟩; rw [HR.out]; exact ⟨rfl, (HG2.out.alloc _).thenBelow hb3⟩))
      · have hb0 : (t3.n != 0) = true := by simp [h0]
        go_wp2_with (first
          | (go_at_call 100; refine hnm.out.mono ?_; rintro e W2 ⟨⟨rfl, hp2⟩, hg2⟩; (have HC2 := Lib.hid hg2); (have HP2 := Lib.hid hp2); clear hp2 hg2; rw [HTK.out])
          | (go_at_call 67; refine (must_yes _ _ _ _ _ _ _ (by first | rfl | exact hb0)).mono ?_; rintro e W3 ⟨rfl, hb3⟩; (have HB3 := Lib.hid hb3); clear hb3))
        have hF : Chg (fun k => k = g) wr W3.drew := ((HC2.out.alloc (tokO t3 tb)).thenBelow HB3.out).drew
        have hX : W3.drew.heap[W2.heap.size]? = some (tokO t3 tb) := block_kept HB3.out (heap_alloc_new W2 _)
        have hk2 := HC2.out.size
        have HX := Lib.hid hX
        have HC4 := Lib.hid (show ConAt gc W3.drew kind (.slice SA scope.length Sc) vr (.slice AA args.length Ac) from hF.heap HC.out (fun e => by omega))
        have HS4 := Lib.hid (HS.out.chg hF (fun k hk e => by have := (HS.out.lt k hk).1; omega))
        have HA4 := Lib.hid (HA.out.chg hF (fun k hk e => by have := (HA.out.lt k hk).1; omega))
        have hp4 : PB g W3.drew (t4 :: r4) (.slice DA nd Dc) hv sv := (((HP2.out.alloc (tokO t3 tb)).grown (below_grown0 HB3.out none) (by simp))).drew
        have HP4 := Lib.hid hp4
        have HG4 := Lib.hid (HG.out.trans hF (fun j _ e => Or.inl e))
        have hsz4 := HG4.out.size
        have hszF := hF.size
        have HAO := Lib.hid (fun k hk => HA.out.lt k hk)
        have HSO := Lib.hid (fun k hk => HS.out.lt k hk)
        clear hF hX hp4 HC2 HP2 HB3 HC HS HA HP HG
        obtain ⟨i0, hi, hz0, hz1, hz2⟩ := info_parts (show (Tryz.prog.info? 3).map (fun i => (i.zero, i.size, i.bytes)) = some (some (.int .i64 0), 1, 8) by kernel_rfl)
        refine wp_region_lex (fun w' => w'.cell? ⟨gc, 3, none⟩ = some (.slice AA args.length Ac) ∧ w'.cell? ⟨W2.heap.size, 2, none⟩ = some (.int .i64 t3.n)) [true, true, true, true, true, true, true, false, false, false, false, false] (by kernel_rfl) (by kernel_rfl) (fun c a d v w h => by cases d <;> exact h) ?_
        change wpLex _ _ _ _ _ _ _ _ _ (World.drew W3)
        generalize World.drew W3 = W at *
        generalize W2.heap.size = k2 at *
        have x1 := cell_at HC4.out (i := 3) rfl
        have x2 := cell_at HX.out (i := 2) rfl
        repeat (first | (refine lex_take ⟨x1, x2⟩ rfl (fun w' hw' => by (obtain ⟨y1, y2⟩ := hw'; (try go_simp); try rfl)) (fun K hK => ?_); go_simp; refine hK _ _ ?_; clear hK K) | (refine lex_take_on _ _ _ _ ⟨x1, x2⟩ rfl rfl rfl rfl (fun w' hw' => by (obtain ⟨y1, y2⟩ := hw'; (try go_simp); try rfl)) (fun K hK => ?_); go_simp; refine hK _ _ ?_; clear hK K) | (refine lex_take_off _ _ _ _ _ ⟨x1, x2⟩ rfl rfl rfl rfl rfl (fun K hK => ?_); go_simp; refine hK _ _ ?_; clear hK K))
        refine lex_step rfl (fun K hK => ?_)
        go_wp2_with fail
        have ha5 : OwnI w.heap.size _ args (W.alloc (.cells #[.int .i64 t3.n] 3)) := HA4.out.chg (Chg.alloc0 W _ (fun _ => False)) (fun _ _ h => h.elim)
        have HA5 := Lib.hid ha5
        have z1 := cell_kept (below_alloc1 W (.cells #[.int .i64 t3.n] 3)) x1
        have z2 := cell_kept (below_alloc1 W (.cells #[.int .i64 t3.n] 3)) x2
        clear ha5
        refine hK _ _ ⟨z1, z2⟩ ?_
        clear hK K
        refine lex_step rfl (fun K hK => ?_)
        refine wp_append_lies _ _ _ 32 rfl w.heap.size 3 i0 _ 1 8 Tryz.underlying32 hi hz0 hz1 hz2 rfl (by decide) (.slice AA args.length Ac) args.length (args.map (Value.int .i64)) rfl HA5.out ⟨_, 0, none⟩ 1 1 [.int .i64 t3.n] rfl rfl (World.news_of_block (cs := #[.int .i64 t3.n]) (t := 3) (fr := (0, 0)) (heap_alloc_new W _)) (by simp [Value.oneCell']) (by decide) (by simp only [maxLen]; omega) (by omega) (by simp; omega) (W.heap.size + 1) (by simp) ?_
        intro kb cap W5 hown hgrow hat hlt
        have hF5 : Chg (fun k => (Value.slice AA args.length Ac).ownBlock = some k) W W5 := (Chg.alloc0 W _ _).trans (chg_of_grown hgrow) (fun _ _ h => h)
        have hc5 : ConAt gc W5 kind (.slice SA scope.length Sc) vr (.slice AA args.length Ac) := hF5.heap HC4.out (fun e => by have := (HAO.out _ e).1; omega)
        have y1 := cell_at hc5 (i := 3) rfl
        have y2 : W5.cell? ⟨k2, 2, none⟩ = some (.int .i64 t3.n) := cell_at (hF5.heap HX.out (fun e => by have := (HAO.out _ e).2; omega)) (i := 2) rfl
        have y3 := cell_at hc5 (i := 1) rfl
        have yf := Lib.frozen_of_heap hc5 3
        have hC6 : ConAt gc (W5.setCell ⟨gc, 3, none⟩ (.slice (some ⟨kb, 0, none⟩) (args.length + 1) cap)) kind (.slice SA scope.length Sc) vr (.slice (some ⟨kb, 0, none⟩) (args.length + 1) cap) := by
          unfold ConAt at hc5 ⊢; simp [World.setCell, Array.getElem?_modify, hc5]
        have hF6 : Chg (fun k => k = gc ∨ (Value.slice AA args.length Ac).ownBlock = some k) W (W5.setCell ⟨gc, 3, none⟩ (.slice (some ⟨kb, 0, none⟩) (args.length + 1) cap)) := (hF5.mono (fun _ _ h => Or.inr h)).trans (chg_setCell W5 gc 3 _) (fun _ _ h => Or.inl h)
        have hS6 := HS4.out.chg hF6 (fun k hk e => by
          rcases e with e | e
          · have := (HSO.out k hk).1; omega
          · exact HAP.out k hk e)
        have hA6 : OwnI w.heap.size (.slice (some ⟨kb, 0, none⟩) (args.length + 1) cap) (args ++ [t3.n]) (W5.setCell ⟨gc, 3, none⟩ (.slice (some ⟨kb, 0, none⟩) (args.length + 1) cap)) := (OwnI.snoc (ys := [t3.n]) hown (by simp)).chg (chg_setCell W5 gc 3 _) (fun k hk e => by
          rcases hat with h | h
          · have h3 : kb = k := by simpa [Value.ownBlock] using hk
            have := (HAO.out kb h).1; omega
          · have h3 : kb = k := by simpa [Value.ownBlock] using hk
            omega)
        have hP6 := HP4.out.chg hF6 (fun k hk e => by
          rcases e with e | e
          · omega
          · have := (HAO.out k e).1; omega)
        have hG6 := HG4.out.trans hF6 (fun j hj e => by
          rcases e with e | e
          · exact Or.inr e
          · have := (HAO.out j e).1; omega)
        have hap6 : ∀ k, (Value.slice SA scope.length Sc).ownBlock = some k → kb ≠ k := fun k hk e => by
          rcases hat with h | h
          · exact HAP.out k hk (by rw [h, e])
          · have := (HSO.out k hk).2; omega
        have hvc := Lib.hid (variable_p g w.heap.size _ t4 r4 DA nd Dc hv sv scope _ hP6 hnd hgw hG6.size hS6 hls)
        have HC6 := Lib.hid hC6
        have HA6 := Lib.hid hA6
        have HP6 := Lib.hid hP6
        have HG6 := Lib.hid hG6
        have HAP6 := Lib.hid hap6
        have HSZ6 := Lib.hid hF6.size
        have HKB : Hid (w.heap.size ≤ kb ∧ kb < (W5.setCell ⟨gc, 3, none⟩ (.slice (some ⟨kb, 0, none⟩) (args.length + 1) cap)).heap.size) := Lib.hid (hA6.lt kb rfl)
        clear hown hgrow hat hF5 hc5 hC6 hF6 hS6 hA6 hP6 hG6 hap6 z1 z2 x1 x2 HC4 HS4 HA4 HP4 HG4 HX HA5
        refine hK _ _ ⟨y1, y2⟩ ?_
        clear hK K
        refine lex_list _ _ _ _ _ rfl (by kernel_rfl) ?_
        rcases hvq : varQ nd scope (t4 :: r4) with ⟨p, x⟩ | ⟨scope', r5⟩
        · have HR : Hid (out = .error (p, x)) := Lib.hid (by rw [HOUT.out, HQ.out, termsQ_var HN.out h0 hvq])
          rw [hvq] at hvc
          clear hvq
          go_wp2_with (go_at_call 159; refine hvc.out.mono ?_; rintro e w' ⟨he, hg⟩; obtain rfl : e = wrongs p x := he; refine ⟨rfl, ?_⟩; rw [HR.out]; exact ⟨rfl, HG6.out.trans hg (fun j hj e => by
            rcases e with e | e
            · exact Or.inl e
            · have := (HSO.out j e).1; omega)⟩)
        · obtain ⟨hv1, rfl, hv2, hv3⟩ := varQ_ok hvq
          have hT5 := HT4.out.tail (by omega)
          obtain ⟨t5, r5, rfl⟩ := hT5.cons
          have HT5 := Lib.hid hT5
          have HVQ := Lib.hid hvq
          have hl6 : scope'.length ≤ 6 := by rw [hv2]; simp; omega
          have hl7 : args.length + 1 ≤ scope'.length := by rw [hv2]; simp; omega
          rw [hvq] at hvc
          clear hvq hv1 hv2 hv3 hT5 HT4
          go_wp2_with (go_at_call 159; refine hvc.out.mono ?_; rintro e W7 ⟨⟨v7, rfl, ho7, hp7, hat7⟩, hg7⟩; obtain ⟨SB, Sd, rfl, _, _, _⟩ := ho7.sl (by omega); (have hc7 : ConAt gc W7 kind (.slice SA scope.length Sc) vr (.slice (some ⟨kb, 0, none⟩) (args.length + 1) cap) := hg7.heap HC6.out (fun e => by rcases e with e | e; omega; have := (HSO.out _ e).1; omega)); (have y4 := cell_at hc7 (i := 1) rfl); (have y5 := Lib.frozen_of_heap hc7 1); (have HC7 := Lib.hid hc7); (have HO7 := Lib.hid ho7); (have HP7 := Lib.hid hp7); (have HAT7 := Lib.hid hat7); (have HG7 := Lib.hid hg7); clear ho7 hp7 hat7 hg7 hc7)
          have hC8 : ConAt gc (W7.setCell ⟨gc, 1, none⟩ (.slice SB scope'.length Sd)) kind (.slice SB scope'.length Sd) vr (.slice (some ⟨kb, 0, none⟩) (args.length + 1) cap) := by
            have := HC7.out
            unfold ConAt at this ⊢; simp [World.setCell, Array.getElem?_modify, this]
          have hO8 := HO7.out.chg (chg_setCell W7 gc 1 (.slice SB scope'.length Sd)) (fun k hk e => by have := (HO7.out.lt k hk).1; omega)
          have hA8 := (HA6.out.chg HG7.out (fun k hk e => by
            have h3 : kb = k := by simpa [Value.ownBlock] using hk
            rcases e with e | e
            · have := HKB.out.1; omega
            · exact HAP6.out k e h3)).chg (chg_setCell W7 gc 1 (.slice SB scope'.length Sd)) (fun k hk e => by
            have h3 : kb = k := by simpa [Value.ownBlock] using hk
            have := HKB.out.1; omega)
          have hP8 := HP7.out.chg (chg_setCell W7 gc 1 (.slice SB scope'.length Sd)) (fun k hk e => by omega)
          have hG8 := (HG6.out.trans HG7.out (fun j hj e => by
            rcases e with e | e
            · exact Or.inl e
            · have := (HSO.out j e).1; omega)).trans (chg_setCell W7 gc 1 (.slice SB scope'.length Sd)) (fun j _ e => Or.inr e)
          have hap8 : ∀ k, (Value.slice SB scope'.length Sd).ownBlock = some k → (Value.slice (some ⟨kb, 0, none⟩) (args.length + 1) cap).ownBlock ≠ some k := fun k hk e => by
            have h3 : kb = k := by simpa [Value.ownBlock] using e
            rcases HAT7.out with h | ⟨k', h, hk'⟩
            · exact HAP6.out k (h ▸ hk) h3
            · rw [hk] at h; injection h with h; have := HKB.out.2; omega
          have hisc := Lib.hid (is_any g _ t5 r5 _ hv sv [44] hP8)
          have hlast : ∀ w'', Chg (fun k => k = g) (W7.setCell ⟨gc, 1, none⟩ (.slice SB scope'.length Sd)) w'' → ConAt gc w'' kind (.slice SB scope'.length Sd) vr (.slice (some ⟨kb, 0, none⟩) (args.length + 1) cap) ∧ OwnI w.heap.size (.slice SB scope'.length Sd) scope' w'' ∧
              OwnI w.heap.size (.slice (some ⟨kb, 0, none⟩) (args.length + 1) cap) (args ++ [t3.n]) w'' ∧ Chg (fun k => k = g ∨ k = gc) w w'' := fun w'' h =>
            ⟨h.heap hC8 (fun e => by omega), hO8.chg h (fun k hk e => by have := (hO8.lt k hk).1; omega), hA8.chg h (fun k hk e => by have := (hA8.lt k hk).1; omega), hG8.trans h (fun j _ e => Or.inl e)⟩
          have HL := Lib.hid hlast
          have HAP8 := Lib.hid hap8
          have hKB1 := HKB.out.1
          clear hC8 hO8 hA8 hP8 hG8 hap8 hlast HC7 HO7 HP7 HAT7 HG7 HC6 HA6 HP6 HG6 HAP6 y4 y5 hvc HSO HAO HKB HSZ6 y1 y2 y3 yf HAP
          by_cases hi5 : isP t5 [44] = true
          · have hT6 := HT5.out.tail (isP_kind hi5)
            simp only [hi5, if_true] at hisc
            have HR : Hid (res = termsQ nd fu (args ++ [t3.n]) scope' r5) := Lib.hid (by rw [HQ.out]; exact termsQ_go HN.out h0 HVQ.out hi5)
            simp only [List.length_cons] at hfu
            obtain ⟨f2, hf2⟩ : ∃ f2, fu = f2 + 1 := ⟨fu - 1, by omega⟩
            rw [hf2] at HR
            have HK2 := Lib.hid (show r5.length < gk by have := HK.out; simp only [List.length_cons] at this; omega)
            have HT6 := Lib.hid hT6
            clear hi5 hT6 HQ
            go_wp2_with (go_at_call 102; refine hisc.out.mono ?_; rintro e w9 ⟨rfl, hp9, hg9⟩; (have HP9 := Lib.hid hp9); (have HG9 := Lib.hid hg9); clear hp9 hg9)
            obtain ⟨q1, q2, q3, q4⟩ := HL.out _ (chg_g HG9.out (fun k => k = g) rfl)
            go_roundg r5.length
            case rel => exact ⟨r5, args ++ [t3.n], scope', _, _, f2, rfl, HR.out, by omega, by simp; omega, hl6, q1, q2, by simpa using q3, HAP8.out, HP9.out, HT6.out, q4⟩
            case measure => exact HK2.out
          · have hi5 := Bool.eq_false_iff.2 hi5
            simp only [hi5, if_false, Bool.false_eq_true] at hisc
            have HR : Hid (out = linTail (args ++ [t3.n]) scope' (t5 :: r5)) := Lib.hid (by rw [HOUT.out, HQ.out, termsQ_end HN.out h0 HVQ.out hi5])
            clear hi5 HQ HVQ HN HOUT HRES
            go_wp2_with (go_at_call 102; refine hisc.out.mono ?_; rintro e w9 ⟨rfl, hp9, hg9⟩; (have HP9 := Lib.hid hp9); (have HG9 := Lib.hid (chg_g hg9 (fun k => k = g) rfl)); clear hp9 hg9)
            have hsg := sign_q g w9 t5 r5 _ hv sv [58] HP9.out HT5.out
            rcases hsq : signQ [58] (t5 :: r5) with ⟨p, x⟩ | ⟨u0, r6⟩
            · have HR2 : Hid (out = .error (p, x)) := Lib.hid (by rw [HR.out, linTail_sign hsq])
              rw [hsq] at hsg
              refine hsg.mono ?_
              rintro e w' ⟨he, hg⟩
              obtain rfl : e = wrongs p x := he
              refine ⟨rfl, ?_⟩
              rw [HR2.out]
              exact ⟨rfl, (HL.out _ (HG9.out.trans hg (fun _ _ e => e))).2.2.2⟩
            · rw [hsq] at hsg
              refine hsg.mono ?_
              rintro e w10 ⟨⟨rfl, hp10, hT6⟩, hg10⟩
              obtain ⟨t6, r6, rfl⟩ := hT6.cons
              have HSQ := Lib.hid hsq
              have HG10 := Lib.hid (HG9.out.trans hg10 (fun _ _ e => e))
              have HT6 := Lib.hid hT6
              have hnx := Lib.hid (next_any g w10 t6 r6 _ hv sv hp10)
              have HTK6 : Hid (tokC t6 = [.int .i64 t6.kind, .string ⟨t6.text.toArray⟩, .int .i64 t6.n, .int .i64 t6.at_]) := Lib.hid rfl
              clear hsq hsg hg10 hT6 hp10 hisc HG9 HP9 HT5
              go_wp2_with (go_at_call 65; refine hnx.out.mono ?_; rintro e w11 ⟨rfl, hp11, hg11⟩; (have HP11 := Lib.hid hp11); (have HG11 := Lib.hid (HG10.out.trans (chg_g hg11 (fun k => k = g) rfl) (fun _ _ e => e))); clear hp11 hg11; rw [HTK6.out])
              have hX := Lib.hid (show (w11.alloc (tokO t6 ⟨t6.text.toArray⟩)).drew.heap[w11.heap.size]? = some (tokO t6 ⟨t6.text.toArray⟩) from heap_alloc_new w11 _)
              have HG12 := Lib.hid (HG11.out.alloc (tokO t6 ⟨t6.text.toArray⟩)).drew
              have HP12 := Lib.hid ((HP11.out.alloc (tokO t6 ⟨t6.text.toArray⟩)).drew)
              clear HP11 HG11 HG10 hnx
              refine wp_region_still_lit (by kernel_rfl) (by kernel_rfl) ?_
              change wpStill _ _ (World.drew (w11.alloc (tokO t6 ⟨t6.text.toArray⟩))) (fun a' => Exit.then _ _ Exit.normal a' (World.drew (w11.alloc (tokO t6 ⟨t6.text.toArray⟩)))) _ _
              obtain ⟨q1, q2, q3, q4⟩ := HL.out _ HG12.out
              have HQ1 := Lib.hid q1
              have HQ2 := Lib.hid q2
              have HQ3 := Lib.hid q3
              have HQ4 := Lib.hid q4
              obtain ⟨th, fh, hh⟩ := HE.out
              have HHW := Lib.hid (q4.heap hh (fun e => by omega))
              have hsz12 := q4.size
              clear q1 q2 q3 q4 HL HG12 hh
              generalize World.drew (w11.alloc (tokO t6 ⟨t6.text.toArray⟩)) = W at *
              generalize w11.heap.size = k6 at *
              have HIX := Lib.hid (words_index t6.text howsT 1 W HHW.out (by decide) 3)
              generalize (ByteArray.mk t6.text.toArray) = tb6 at *
              have d0 := cell_at hX.out (i := 0) rfl
              have d1 := cell_at hX.out (i := 1) rfl
              have d2 := cell_at hX.out (i := 2) rfl
              have d3 := cell_at hX.out (i := 3) rfl
              repeat (first | (refine still_plain rfl (fun K hK => ?_); go_simp; refine hK _ ?_; clear hK K) | (refine still_off _ _ _ _ _ rfl rfl rfl rfl rfl (fun K hK => ?_); go_simp; refine hK _ ?_; clear hK K) | (refine still_on _ _ _ _ rfl rfl rfl rfl (fun K hK => ?_); go_simp; refine hK _ ?_; clear hK K) | (refine still_dead _ _ _ _ rfl rfl rfl rfl (fun K hK => ?_); go_simp; refine hK _ ?_; clear hK K))
              ((first | refine still_plain rfl (fun K hK => ?_) | refine still_on _ _ _ _ rfl rfl rfl rfl (fun K hK => ?_)); go_simp; refine ⟨_, HIX.out, hK _ ?_⟩; clear hK K)
              repeat (first | (refine still_plain rfl (fun K hK => ?_); go_simp; refine hK _ ?_; clear hK K) | (refine still_off _ _ _ _ _ rfl rfl rfl rfl rfl (fun K hK => ?_); go_simp; refine hK _ ?_; clear hK K) | (refine still_on _ _ _ _ rfl rfl rfl rfl (fun K hK => ?_); go_simp; refine hK _ ?_; clear hK K) | (refine still_dead _ _ _ _ rfl rfl rfl rfl (fun K hK => ?_); go_simp; refine hK _ ?_; clear hK K))
              refine wpStill_nil ?_
              generalize hhow : wordFrom t6.text 0 howsT = how at *
              have HH := Lib.hid hhow
              clear hhow
              by_cases hgood : t6.kind = 1 ∧ 0 ≤ how
              · obtain ⟨hk1, hh0⟩ := hgood
                have hk1b : (t6.kind == 1) = true := by simpa using hk1
                have hh0b : decide (0 ≤ how) = true := by simpa using hh0
                have hT7 := HT6.out.tail (by omega)
                obtain ⟨t7, r7, rfl⟩ := hT7.cons
                have HT7 := Lib.hid hT7
                have hpp := HP12.out
                rw [if_neg (by omega)] at hpp
                have HP13 := Lib.hid hpp
                have HK1 := Lib.hid hk1
                clear hT7 HT6 hpp HP12 hk1
                go_wp2_with (go_at_call 67; refine (must_yes _ _ _ _ _ _ _ (by first | rfl | exact hh0b)).mono ?_; rintro e W13 ⟨rfl, hb13⟩; (have HB13 := Lib.hid (hb13.trans (Below.drew (Below.refl W13.heap.size W13) |>.mono hb13.size))); clear hb13 d0 d1 d2 d3)
                have hc13 : ConAt gc W13.drew kind _ vr _ := block_kept HB13.out HQ1.out
                have ho13 := HQ2.out.chg (chg_of_below HB13.out (fun _ => False)) (fun _ _ h => h.elim)
                have ha13 := HQ3.out.chg (chg_of_below HB13.out (fun _ => False)) (fun _ _ h => h.elim)
                have hg13 := HQ4.out.thenBelow HB13.out
                have hp13 := HP13.out.grown (below_grown0 HB13.out none) (by simp)
                have hnm2 := Lib.hid (number_q g W13.drew t7 r7 _ _ _ 1000000 (by decide) (by decide) hp13)
                have HC13 := Lib.hid hc13
                have HO13 := Lib.hid ho13
                have HA13 := Lib.hid ha13
                have HG13 := Lib.hid hg13
                have hsz13 := hg13.size
                clear hc13 ho13 ha13 hg13 hp13 HQ1 HQ2 HQ3 HQ4 HP13 HB13 hX
                have hln : (args ++ [t3.n]).length ≤ 7 := by simp; omega
                generalize hgar : args ++ [t3.n] = args3 at *
                generalize hgs : Value.slice (some ⟨kb, 0, none⟩) (args.length + 1) cap = va3 at *
                have hva : ∃ c3, va3 = .slice (some ⟨kb, 0, none⟩) args3.length c3 := ⟨cap, by rw [← hgs, ← hgar]; simp⟩
                clear hgar hgs
                obtain ⟨c3, rfl⟩ := hva
                have x1 := cell_at HC13.out (i := 3) rfl
                refine wp_region_lex (fun w' => w'.cell? ⟨gc, 3, none⟩ = some (.slice (some ⟨kb, 0, none⟩) args3.length c3)) [true, true, true, true, true, true, true, false, false, false, false, false, false, false] (by kernel_rfl) (by kernel_rfl) (fun c a d v w h => by cases d <;> exact h) ?_
                change wpLex _ _ _ _ _ _ _ _ _ (World.drew W13)
                generalize World.drew W13 = V at *
                repeat (first | (refine lex_take x1 rfl (fun w' hw' => by (obtain y1 := hw'; (try go_simp); try rfl)) (fun K hK => ?_); go_simp; refine hK _ _ ?_; clear hK K) | (refine lex_take_on _ _ _ _ x1 rfl rfl rfl rfl (fun w' hw' => by (obtain y1 := hw'; (try go_simp); try rfl)) (fun K hK => ?_); go_simp; refine hK _ _ ?_; clear hK K) | (refine lex_take_off _ _ _ _ _ x1 rfl rfl rfl rfl rfl (fun K hK => ?_); go_simp; refine hK _ _ ?_; clear hK K))
                refine lex_step rfl (fun K hK => ?_)
                rcases hn7 : numberQ 1000000 (t7 :: r7) with ⟨p, x⟩ | ⟨t8, r8⟩
                · have HR2 : Hid (out = .error (p, x)) := Lib.hid (by rw [HR.out]; exact linTail_num HSQ.out HK1.out (by rw [HH.out]; exact hh0) hn7)
                  rw [hn7] at hnm2
                  clear hn7
                  go_wp2_with (go_at_call 100; refine hnm2.out.mono ?_; rintro e w' ⟨he, hg⟩; obtain rfl : e = wrongs p x := he; refine ⟨rfl, ?_⟩; rw [HR2.out]; exact ⟨rfl, HG13.out.trans hg (fun j _ e => Or.inl e)⟩)
                · have HR2 : Hid (out = .ok ((args3 ++ [how, t8.n], scope'), r8)) := Lib.hid (by rw [HR.out, linTail_ok HSQ.out HK1.out (by rw [HH.out]; exact hh0) hn7, HH.out])
                  obtain ⟨hz8, hk8⟩ := numberQ_ok hn7
                  injection hz8 with hz8a hz8b
                  subst hz8a hz8b
                  have HT8 := Lib.hid (HT7.out.tail hk8)
                  rw [hn7] at hnm2
                  have HTK7 : Hid (tokC t7 = [.int .i64 t7.kind, .string ⟨t7.text.toArray⟩, .int .i64 t7.n, .int .i64 t7.at_]) := Lib.hid rfl
                  clear hn7 hk8
                  go_wp2_with (go_at_call 100; refine hnm2.out.mono ?_; rintro e V2 ⟨⟨rfl, hp2⟩, hg2⟩; rw [HTK7.out])
                  have hc2 : ConAt gc V2 kind _ vr _ := hg2.heap HC13.out (fun e => by omega)
                  have z1 := cell_at hc2 (i := 3) rfl
                  have HC2 := Lib.hid hc2
                  have HP2 := Lib.hid hp2
                  have HG2 := Lib.hid (HG13.out.trans hg2 (fun j _ e => Or.inl e))
                  have HO2 := Lib.hid (HO13.out.chg hg2 (fun k hk e => by have := (HO13.out.lt k hk).1; omega))
                  have ha2 := HA13.out.chg hg2 (fun k hk e => by have := (HA13.out.lt k hk).1; omega)
                  have hszv := HG2.out.size
                  have HA2 := Lib.hid (ha2.chg (Chg.alloc0 V2 (.cells #[.int .i64 how, .int .i64 t7.n] 3) (fun _ => False)) (fun _ _ h => h.elim))
                  clear hp2 hg2 hc2 ha2 HC13 HG13 HO13 HA13 x1 hnm2
                  refine hK _ _ z1 ?_
                  clear hK K
                  refine lex_step rfl (fun K hK => ?_)
                  go_wp2_with fail
                  refine hK _ _ z1 ?_
                  clear hK K
                  refine lex_step rfl (fun K hK => ?_)
                  go_wp2_with fail
                  have z2 := cell_kept (below_alloc1 V2 (.cells #[.int .i64 how, .int .i64 t7.n] 3)) z1
                  refine hK _ _ z2 ?_
                  clear hK K
                  refine lex_step rfl (fun K hK => ?_)
                  refine wp_append_lies _ _ _ 32 rfl w.heap.size 3 i0 _ 1 8 Tryz.underlying32 hi hz0 hz1 hz2 rfl (by decide) (.slice (some ⟨kb, 0, none⟩) args3.length c3) args3.length (args3.map (Value.int .i64)) rfl HA2.out ⟨_, 0, none⟩ 2 2 [.int .i64 how, .int .i64 t7.n] rfl rfl (World.news_of_block (cs := #[.int .i64 how, .int .i64 t7.n]) (t := 3) (fr := (0, 0)) (heap_alloc_new V2 _)) (by simp [Value.oneCell']) (by decide) (by simp only [maxLen]; omega) (by omega) (by simp; omega) (V2.heap.size + 1) (by simp) ?_
                  intro ka cap3 V3 hown hgrow hat hlt
                  have hF3 : Chg (fun k => kb = k) V2 V3 := (Chg.alloc0 V2 _ _).trans ((chg_of_grown hgrow).mono (fun j _ h => by simpa [Value.ownBlock] using h)) (fun _ _ h => h)
                  have hc3 : ConAt gc V3 kind (.slice SB scope'.length Sd) vr (.slice (some ⟨kb, 0, none⟩) args3.length c3) := hF3.heap HC2.out (fun e => by omega)
                  have y1 := cell_at hc3 (i := 3) rfl
                  have yf := Lib.frozen_of_heap hc3 3
                  have hka : w.heap.size ≤ ka := by
                    rcases hat with h | h
                    · have h3 : kb = ka := by simpa [Value.ownBlock] using h
                      omega
                    · omega
                  have HOW := Lib.hid (OwnI.snoc (ys := [how, t7.n]) hown (by simp))
                  have HF3 := Lib.hid hF3
                  have HC3 := Lib.hid hc3
                  clear hown hgrow hat hF3 hc3 z1 z2
                  refine hK _ _ y1 ?_
                  clear hK K
                  refine lex_list _ _ _ _ _ rfl (by kernel_rfl) ?_
                  go_wp2
                  go_end0
                  have hF4 : Chg (fun k => kb = k ∨ k = gc) V2 (V3.setCell ⟨gc, 3, none⟩ (.slice (some ⟨ka, 0, none⟩) (args3.length + 2) cap3)) := (HF3.out.mono (fun _ _ h => Or.inl h)).trans (chg_setCell V3 gc 3 _) (fun _ _ h => Or.inr h)
                  refine ⟨?_, HG2.out.trans hF4 (fun j hj e => by
                    rcases e with e | e
                    · omega
                    · exact Or.inr e)⟩
                  rw [HR2.out]
                  refine ⟨.slice SB scope'.length Sd, .slice (some ⟨ka, 0, none⟩) (args3.length + 2) cap3, rfl, ?_, ?_, ?_, hl6, by simp; omega, ?_, HT8.out⟩
                  · have := HC3.out
                    unfold ConAt at this ⊢; simp [World.setCell, Array.getElem?_modify, this]
                  · exact HO2.out.chg hF4 (fun k hk e => by
                      rcases e with e | e
                      · exact HAP8.out k hk (by simp [Value.ownBlock, e])
                      · have := (HO2.out.lt k hk).1; omega)
                  · exact HOW.out.chg (chg_setCell V3 gc 3 _) (fun k hk e => by
                      have h3 : ka = k := by simpa [Value.ownBlock] using hk
                      omega)
                  · exact HP2.out.chg hF4 (fun k hk e => by omega)
              · have HR2 : Hid (out = .error (t6.at_, 3)) := Lib.hid (by rw [HR.out]; exact linTail_word HSQ.out (by rw [HH.out]; exact hgood))
                have hh0b : t6.kind = 1 → decide (0 ≤ how) = false := fun h => by simp; omega
                by_cases hk1 : t6.kind = 1
                · have hk1b : (t6.kind == 1) = true := by simpa using hk1
                  have hhb := hh0b hk1
                  clear hk1 hgood hh0b
                  go_wp2_with (go_at_call 67; refine (must_no _ _ _ _ _ _ _ (by first | rfl | exact hhb)).mono ?_; rintro e W13 ⟨rfl, hb13⟩; refine ⟨rfl, ?_⟩; rw [HR2.out]; exact ⟨rfl, HQ4.out.thenBelow hb13⟩)
                · have hk1b : (t6.kind == 1) = false := by simpa using hk1
                  clear hk1 hgood hh0b
                  go_wp2_with (go_at_call 67; refine (must_no _ _ _ _ _ _ _ (by first | rfl | exact hhb)).mono ?_; rintro e W13 ⟨rfl, hb13⟩; refine ⟨rfl, ?_⟩; rw [HR2.out]; exact ⟨rfl, HQ4.out.thenBelow hb13⟩)
end Go.Proofs.YtgpgmmkkmoecmaaGreatDoor

/- inst.parser: hard. -/
namespace Go.Proofs.YtgpgmmkkmoecmaaGreatDoor
open Go.RowKit
attribute [local irreducible] wpStill wpLex Calls

theorem scopeQ_range {nd : Nat} : ∀ (ts : List Tok) (l l' : List Int) (r : List Tok), scopeQ nd ts l = .ok (l', r) → (∀ v ∈ l, 0 ≤ v ∧ v < nd) → ∀ v ∈ l', 0 ≤ v ∧ v < nd
  | [], l, l', r, h, _ => by simp [scopeQ] at h
  | t :: ts, l, l', r, h, hl => by
    by_cases h0 : l.length = 0 ∨ t.kind = 2
    · cases hv : varQ nd l (t :: ts) with
      | error e => rw [scopeQ_err h0 hv] at h; cases h
      | ok p =>
        rw [scopeQ_ok h0 hv] at h
        refine scopeQ_range ts p.1 l' r h ?_
        obtain ⟨p1, p2⟩ := p
        obtain ⟨_, _, hp, _⟩ := varQ_ok hv
        simp only
        subst hp
        intro v hm
        rcases List.mem_append.1 hm with hm | hm
        · exact hl v hm
        · obtain rfl := List.mem_singleton.1 hm
          rw [varQ] at hv
          rcases numberQ_cases 1000000000000 t ts with ⟨h1, _⟩ | ⟨h1, _⟩ | ⟨h1, _⟩ <;> rw [h1] at hv
          · cases hv
          · cases hv
          · simp only at hv
            split at hv
            · cases hv
            · split at hv
              · rename_i h; exact ⟨h.1, h.2.1⟩
              · cases hv
    · rw [scopeQ, if_pos (by omega)] at h
      injection h with h
      injection h with h _
      exact h ▸ hl
theorem scopeQ_len {nd : Nat} : ∀ (ts : List Tok) (l l' : List Int) (r : List Tok), scopeQ nd ts l = .ok (l', r) → r.length ≤ ts.length
  | [], l, l', r, h => by simp [scopeQ] at h
  | t :: ts, l, l', r, h => by
    by_cases h0 : l.length = 0 ∨ t.kind = 2
    · cases hv : varQ nd l (t :: ts) with
      | error e => rw [scopeQ_err h0 hv] at h; cases h
      | ok p =>
        rw [scopeQ_ok h0 hv] at h
        have := scopeQ_len ts p.1 l' r h
        simp; omega
    · rw [scopeQ, if_pos (by omega)] at h
      injection h with h
      injection h with _ h
      rw [← h]; exact Nat.le_refl _
/-- A constraint's cells, as data. -/
theorem con_K {w : World} {ok : Nat → Prop} {kind : Int} {vs vr va : Value} {scope args : List Int} {rows : List (List Int)} (hs : Sl (Kd.int .i64) w ok vs scope) (hr : Sl kRow w ok vr rows) (ha : Sl (Kd.int .i64) w ok va args) :
    kCon.K w ok ⟨kind, scope, rows, args⟩ [.int .i64 kind, vs, vr, va] :=
  ⟨[_], [_, _, _], rfl, rfl, [_], [_, _], rfl, ⟨_, rfl, hs⟩, [_], [_], rfl, ⟨_, rfl, hr⟩, ⟨_, rfl, ha⟩⟩
theorem OwnD.done {α : Type} {d : Kd α} {E : TypeId} {base B : Nat} {ok : Nat → Prop} {v : Value} {xs : List α} {w : World} (h : OwnD d E base ok v xs w) (hl : xs.length ≤ 140737488355328) (hB : B ≤ base) (hok : ∀ k, ok k → B ≤ k ∧ k < w.heap.size) : Sl d w (fun k => B ≤ k ∧ k < w.heap.size) v xs :=
  (h.sl hl).mono fun k hk => by
    rcases hk with hk | hk
    · exact hok k hk
    · have := h.own k hk; exact ⟨Nat.le_trans hB this.1, this.2.1⟩
theorem hardQ_tab {doms : List (List Int)} {kind : Int} {ts r : List Tok} {scope : List Int} (h6 : ¬ kind = 6) (hs : scopeQ doms.length ts [] = .ok (scope, r)) (h2 : kind ≤ 2) :
    (∀ e, tableQ doms scope r = .error e → hardQ doms kind ts = .error e) ∧ (∀ rows r', tableQ doms scope r = .ok (rows, r') → hardQ doms kind ts = .ok (⟨kind, scope, rows, []⟩, r')) := by
  refine ⟨fun e h => ?_, fun rows r' h => ?_⟩ <;> (rw [hardQ, if_neg h6, hs]; simp only; rw [if_pos h2, h])
def HardOut (g : Nat) (w' : World) (x : Ins) (e : Ending) (c : Con) (r : List Tok) : Prop := e = .returned (.tuple #[]) ∧ PAll g w' r { x with hard := x.hard ++ [c] }

set_option maxRecDepth 100000 in
set_option maxHeartbeats 4000000 in
theorem hard_p (g : Nat) (w : World) (ts : List Tok) (x : Ins) (kind : Int) (h : PAll g w ts x) (hx : x.hard.length ≤ 200) (hd : x.doms.length ≤ 40) (htl : ts.length ≤ 150000)
    (hE : ∃ t fr, w.heap[1]? = some (.cells (howsT.map fun l => Value.string ⟨l.toArray⟩).toArray t fr)) (h8 : 8 ≤ g) :
    Calls Tryz.prog 70 #[.pointer (some ⟨g, 0, none⟩), .int .i64 kind] w fun e w' => Out (hardQ x.doms kind ts) (HardOut g w' x e) e ∧ Below g w w' := by
  obtain ⟨dv, hv, sv, ok, hp, hst, hT⟩ := h
  have hgw := hp.lt
  obtain ⟨DA, Dc, rfl, _, _, _⟩ := hst.D.sl (by omega)
  have hfb : ∀ w', Chg (fun k => g ≤ k) w w' → Below g w w' := fun w' h => h.below (fun k hk e => by omega) (by omega)
  have HFB := Lib.hid hfb
  have hc1 : ConAt w.heap.size (w.alloc (.cells #[.int .i64 kind, .slice none 0 0, .slice none 0 0, .slice none 0 0] 34)) kind (.slice none 0 0) (.slice none 0 0) (.slice none 0 0) := heap_alloc_new w _
  have hF1 : Chg (fun _ => False) w (w.alloc (.cells #[.int .i64 kind, .slice none 0 0, .slice none 0 0, .slice none 0 0] 34)) := Chg.alloc0 w _ _
  have hp1 := hp.alloc (.cells #[.int .i64 kind, .slice none 0 0, .slice none 0 0, .slice none 0 0] 34)
  have hE1 : ∃ t fr, (w.alloc (.cells #[.int .i64 kind, .slice none 0 0, .slice none 0 0, .slice none 0 0] 34)).heap[1]? = some (.cells (howsT.map fun l => Value.string ⟨l.toArray⟩).toArray t fr) := by
    obtain ⟨t, fr, h⟩ := hE
    exact ⟨t, fr, hF1.heap h id⟩
  have HST := Lib.hid hst
  by_cases hk6 : kind = 6
  · have hk6b : (kind == 6) = true := by simpa using hk6
    have hk2b : decide (kind ≤ 2) = false := by simp; omega
    have hlc := Lib.hid (linear_p g w.heap.size _ ts DA x.doms.length Dc hv sv (.slice none 0 0) kind hp1 hT (by omega) hE1 h8 hgw hc1)
    rcases hq : linearQ x.doms.length ts with ⟨p, y⟩ | ⟨⟨args, scope⟩, r⟩
    · have HR : Hid (hardQ x.doms kind ts = .error (p, y)) := Lib.hid (by rw [hardQ, if_pos hk6, hq])
      rw [hq] at hlc
      clear hq hk6 hE hE1 hp hst hT hc1 hp1 hF1 hfb
      go_enter Tryz.func70, Tryz.ntmps70
      go_wp2_with (go_at_call 104; refine hlc.out.mono ?_; rintro e w' ⟨he, hg⟩; obtain rfl : e = wrongs p y := he; refine ⟨rfl, ?_⟩; rw [HR.out]; exact ⟨rfl, HFB.out _ (((Chg.alloc0 w _ (fun _ => False)).mono (fun _ _ h => h.elim)).trans hg (fun j hj e => by omega))⟩)
    · have HR : Hid (hardQ x.doms kind ts = .ok (⟨kind, scope, [], args⟩, r)) := Lib.hid (by rw [hardQ, if_pos hk6, hq])
      rw [hq] at hlc
      clear hq hk6 hE hE1 hp hst hT hc1 hp1 hF1 hfb
      go_enter Tryz.func70, Tryz.ntmps70
      go_wp2_with (go_at_call 104; refine hlc.out.mono ?_; rintro e V0 ⟨⟨vs, va, rfl, hc9, hs9, ha9, hsl9, hal9, hp9, hT9⟩, hg9⟩; (have HC9 := Lib.hid hc9); (have HP9 := Lib.hid hp9); (have HT9 := Lib.hid hT9); obtain ⟨SA9, Sc9, rfl, _, _, _⟩ := hs9.sl (by omega); obtain ⟨AA9, Ac9, rfl, _, _, _⟩ := ha9.sl (by omega); (have HSL := Lib.hid hs9); (have HAL := Lib.hid ha9); (have HG9 := Lib.hid (((Chg.alloc0 w _ (fun _ => False)).mono (fun _ _ h => h.elim)).trans hg9 (fun j hj e => (by rcases e with e | e; exact Or.inl e; exact Or.inr (by omega) : j = g ∨ w.heap.size ≤ j)))); clear hc9 hs9 ha9 hp9 hT9 hg9)
      have hszv := HG9.out.size
      have hs9' : PSt g V0.drew.heap.size V0.drew x (.slice DA x.doms.length Dc) hv sv (fun k => ok k ∨ (w.heap.size ≤ k ∧ k < V0.drew.heap.size)) := (HST.out.chg HG9.out.drew (fun k hk => by omega)).fill hszv hgw
      have HKX := Lib.hid (show kCon.K V0.drew (fun k => ok k ∨ (w.heap.size ≤ k ∧ k < V0.drew.heap.size)) ⟨kind, scope, [], args⟩ [.int .i64 kind, (.slice SA9 scope.length Sc9), (.slice none 0 0), (.slice AA9 args.length Ac9)] from con_K (((HSL.out.done (B := w.heap.size) (by omega) (by simp)).below (by decide) (Below.drew (Below.refl _ _))).mono fun _ h => Or.inr h) ((sl_nil none 0).mono fun _ h => Or.inr h) (((HAL.out.done (B := w.heap.size) (by omega) (by simp)).below (by decide) (Below.drew (Below.refl _ _))).mono fun _ h => Or.inr h))
      obtain ⟨HA9, Hc9, hHv, _, _, _⟩ := hs9'.H.sl (by omega)
      subst hHv
      have HS9 := Lib.hid hs9'
      have HP10 := Lib.hid HP9.out.drew
      have HG10 := Lib.hid HG9.out.drew
      have hc10 : ConAt w.heap.size V0.drew kind _ _ _ := HC9.out
      obtain ⟨A9, n9, c9, hb9, _⟩ := HP10.out
      have x1 := cell_at hb9 (i := 2) rfl
      have x2 := cell_at hc10 (i := 0) rfl
      have x3 := cell_at hc10 (i := 1) rfl
      have x4 := cell_at hc10 (i := 2) rfl
      have x5 := cell_at hc10 (i := 3) rfl
      have HC10 := Lib.hid hc10
      clear hb9 hc10 hs9' HP9 HG9 HC9 HST
      obtain ⟨iC, hiC, hC0, hC1, hC2⟩ := info_parts (show (Tryz.prog.info? 34).map (fun i => (i.zero, i.size, i.bytes)) = some (some (.agg #[.int .i64 0, .slice none 0 0, .slice none 0 0, .slice none 0 0]), 4, 80) by kernel_rfl)
      refine wp_region_lex (fun w' => w'.cell? ⟨g, 2, none⟩ = some (.slice HA9 x.hard.length Hc9) ∧ w'.cell? ⟨w.heap.size, 0, none⟩ = some (.int .i64 kind) ∧ w'.cell? ⟨w.heap.size, 1, none⟩ = some (.slice SA9 scope.length Sc9) ∧ w'.cell? ⟨w.heap.size, 2, none⟩ = some (.slice none 0 0) ∧ w'.cell? ⟨w.heap.size, 3, none⟩ = some (.slice AA9 args.length Ac9)) [true, true, true, true, true, true, true, false, false, false, false, false, false] (by kernel_rfl) (by kernel_rfl) (fun c a d v w h => by cases d <;> exact h) ?_
      change wpLex _ _ _ _ _ _ _ _ _ (World.drew V0)
      have hV : V0.heap.size ≤ (World.drew V0).heap.size := Nat.le_refl _
      generalize World.drew V0 = V at *
      repeat (first | (refine lex_take ⟨x1, x2, x3, x4, x5⟩ rfl (fun w' hw' => by (obtain ⟨y1, y2, y3, y4, y5⟩ := hw'; (try go_simp); try rfl)) (fun K hK => ?_); go_simp; refine hK _ _ ?_; clear hK K) | (refine lex_take_on _ _ _ _ ⟨x1, x2, x3, x4, x5⟩ rfl rfl rfl rfl (fun w' hw' => by (obtain ⟨y1, y2, y3, y4, y5⟩ := hw'; (try go_simp); try rfl)) (fun K hK => ?_); go_simp; refine hK _ _ ?_; clear hK K) | (refine lex_take_off _ _ _ _ _ ⟨x1, x2, x3, x4, x5⟩ rfl rfl rfl rfl rfl (fun K hK => ?_); go_simp; refine hK _ _ ?_; clear hK K))
      refine lex_step rfl (fun K hK => ?_)
      go_wp2_with fail
      have z1 := cell_kept (below_alloc1 V (.cells #[.int .i64 kind, (.slice SA9 scope.length Sc9), (.slice none 0 0), (.slice AA9 args.length Ac9)] 34)) x1
      have z2 := cell_kept (below_alloc1 V (.cells #[.int .i64 kind, (.slice SA9 scope.length Sc9), (.slice none 0 0), (.slice AA9 args.length Ac9)] 34)) x2
      have z3 := cell_kept (below_alloc1 V (.cells #[.int .i64 kind, (.slice SA9 scope.length Sc9), (.slice none 0 0), (.slice AA9 args.length Ac9)] 34)) x3
      have z4 := cell_kept (below_alloc1 V (.cells #[.int .i64 kind, (.slice SA9 scope.length Sc9), (.slice none 0 0), (.slice AA9 args.length Ac9)] 34)) x4
      have z5 := cell_kept (below_alloc1 V (.cells #[.int .i64 kind, (.slice SA9 scope.length Sc9), (.slice none 0 0), (.slice AA9 args.length Ac9)] 34)) x5
      refine hK _ _ ⟨z1, z2, z3, z4, z5⟩ ?_
      clear hK K z1 z2 z3 z4 z5
      have HS11 := Lib.hid (HS9.out.chg (Chg.alloc0 V (.cells #[.int .i64 kind, (.slice SA9 scope.length Sc9), (.slice none 0 0), (.slice AA9 args.length Ac9)] 34) (fun _ => False)) (fun _ h => h.elim))
      have HK11 := Lib.hid (kCon.chg HKX.out (Chg.alloc0 V (.cells #[.int .i64 kind, (.slice SA9 scope.length Sc9), (.slice none 0 0), (.slice AA9 args.length Ac9)] 34) (fun _ => False)) (fun _ _ h => h))
      obtain ⟨css, hcs1, hcs2⟩ := HS11.out.H.open_
      have HCS1 := Lib.hid hcs1
      have HCS2 := Lib.hid hcs2
      have HHO := Lib.hid (fun k hk => HS9.out.H.own k hk)
      clear hcs1 hcs2
      refine lex_step rfl (fun K hK => ?_)
      refine wp_append_lies _ _ _ 27 rfl (g + 1) 34 iC _ 4 80 Tryz.underlying27 hiC hC0 hC1 hC2 rfl (by decide) (.slice HA9 x.hard.length Hc9) x.hard.length css.flatten rfl HCS2.out ⟨_, 0, none⟩ 1 1 [.int .i64 kind, (.slice SA9 scope.length Sc9), (.slice none 0 0), (.slice AA9 args.length Ac9)] rfl rfl (World.news_of_block (cs := #[.int .i64 kind, (.slice SA9 scope.length Sc9), (.slice none 0 0), (.slice AA9 args.length Ac9)]) (t := 34) (fr := (0, 0)) (heap_alloc_new V _)) (by simp [Value.oneCell']) (by decide) (by simp only [maxLen]; omega) (by omega) (by simp; omega) (V.heap.size + 1) (by simp) ?_
      intro kb cap V3 hown hgrow hat hlt
      have hF3 : Chg (fun k => (Value.slice HA9 x.hard.length Hc9).ownBlock = some k) V V3 := (Chg.alloc0 V _ _).trans (chg_of_grown hgrow) (fun _ _ h => h)
      have hs12 := HS11.out.addH (by simp) HCS1.out HK11.out hgrow hown (hat_of hat (by simp))
      have hp12 := HP10.out.chg hF3 (fun k hk e => by have := (HHO.out k e).1; omega)
      have hc12 : ConAt w.heap.size V3 kind _ _ _ := hF3.heap HC10.out (fun e => (HHO.out _ e).2.2 (Or.inr ⟨Nat.le_refl _, by have := lt_of_block HC10.out; omega⟩))
      obtain ⟨A12, n12, c12, hb12, _⟩ := hp12
      have y1 := cell_at hb12 (i := 2) rfl
      have yf := Lib.frozen_of_heap hb12 2
      have y2 := cell_at hc12 (i := 0) rfl
      have y3 := cell_at hc12 (i := 1) rfl
      have y4 := cell_at hc12 (i := 2) rfl
      have y5 := cell_at hc12 (i := 3) rfl
      have HS12 := Lib.hid hs12
      have HP12 := Lib.hid (show PB g V3 r _ _ sv from ⟨A12, n12, c12, hb12, by assumption⟩)
      have HG12 := Lib.hid ((HG10.out.mono (fun j _ h => (by omega : g ≤ j))).trans hF3 (fun j hj e => by have := (HHO.out j e).1; omega))
      clear hown hgrow hat hF3 hs12 hc12 hb12
      refine hK _ _ ⟨y1, y2, y3, y4, y5⟩ ?_
      clear hK K
      refine lex_list _ _ _ _ _ rfl (by kernel_rfl) ?_
      go_wp2
      go_end0
      refine ⟨?_, ?_⟩
      · rw [HR.out]
        exact ⟨rfl, _, _, sv, _, HP12.out.setH _, (HS12.out.chg (chg_setCell V3 g 2 _) (fun k hk => by omega)).later (by rw [Go.Deep.nblk_setCell]; exact Nat.le_refl _), HT9.out⟩
      · exact HFB.out _ (HG12.out.trans (chg_setCell V3 g 2 _) (fun j _ e => by omega))
  · have hk6b : (kind == 6) = false := by simpa using hk6
    have hscp := Lib.hid (scope_p g _ ts DA x.doms.length Dc hv sv hp1 hT (by omega))
    rcases hq : scopeQ x.doms.length ts [] with ⟨p, y⟩ | ⟨scope, r⟩
    · have HR : Hid (hardQ x.doms kind ts = .error (p, y)) := Lib.hid (by rw [hardQ, if_neg hk6, hq])
      rw [hq] at hscp
      clear hq hk6 hE hE1 hp hst hT hc1 hp1 hF1 hfb
      go_enter Tryz.func70, Tryz.ntmps70
      go_wp2_with (go_at_call 101; refine hscp.out.mono ?_; rintro e w' ⟨he, hg⟩; obtain rfl : e = wrongs p y := he; refine ⟨rfl, ?_⟩; rw [HR.out]; exact ⟨rfl, HFB.out _ (((Chg.alloc0 w _ (fun _ => False)).mono (fun _ _ h => h.elim)).trans hg (fun j hj e => by omega))⟩)
    · rw [hq] at hscp
      have HRG := Lib.hid (scopeQ_range ts [] scope r hq (fun v h => by simp at h))
      have hrl := scopeQ_len ts [] scope r hq
      by_cases hk2 : kind ≤ 2
      · have hk2b : decide (kind ≤ 2) = true := by simpa using hk2
        have HQ2 := Lib.hid (hardQ_tab hk6 hq hk2)
        clear hq hk6 hk2 hE hE1 hp hst hT hp1 hF1 hfb
        go_enter Tryz.func70, Tryz.ntmps70
        go_wp2_with (go_at_call 101; refine hscp.out.mono ?_; rintro e V2 ⟨⟨vs, rfl, hs9, hsl9, hsl0, hp9, hT9⟩, hg9⟩; obtain ⟨SA9, Sc9, rfl, _, _, _⟩ := hs9.sl (by omega); (have hc9 : ConAt w.heap.size V2 kind _ _ _ := hg9.heap hc1 (fun e => by omega)); (have x1 := cell_at hc9 (i := 1) rfl); (have xf := Lib.frozen_of_heap hc9 1); (have HC2 := Lib.hid hc9); (have HP2 := Lib.hid hp9); (have HT2 := Lib.hid hT9); (have HSL := Lib.hid hs9); (have HG2 := Lib.hid (((Chg.alloc0 w _ (fun _ => False)).mono (fun _ _ h => h.elim)).trans hg9 (fun j hj e => (by omega : j = g ∨ w.heap.size ≤ j)))); clear hs9 hp9 hT9 hg9 hc9 hc1)
        have hsc2 : w.heap.size + 1 ≤ V2.heap.size := by have := lt_of_block HC2.out; omega
        have hc3 : ConAt w.heap.size (V2.setCell ⟨w.heap.size, 1, none⟩ (.slice SA9 scope.length Sc9)) kind (.slice SA9 scope.length Sc9) (.slice none 0 0) (.slice none 0 0) := by
          have := HC2.out
          unfold ConAt at this ⊢; simp [World.setCell, Array.getElem?_modify, this]
        have hg3 := HG2.out.trans (chg_setCell V2 w.heap.size 1 (.slice SA9 scope.length Sc9)) (fun j _ e => Or.inr (by omega))
        have hp3 := HP2.out.chg (chg_setCell V2 w.heap.size 1 (.slice SA9 scope.length Sc9)) (fun k hk e => by omega)
        have hs3 := HSL.out.chg (chg_setCell V2 w.heap.size 1 (.slice SA9 scope.length Sc9)) (fun k hk e => by have := (HSL.out.lt k hk).1; simp at this; omega)
        have hst3 := HST.out.chg hg3 (fun k hk => by omega)
        have hrc := Lib.hid (rows_p g w.heap.size _ r x.doms DA Dc hv sv (.slice none 0 0) _ _ scope SA9 Sc9 kind hp3 HT2.out (by omega) (hst3.D.sl (by omega)) (fun k hk => by
            rcases hk with hk | hk
            · have := hst3.okg k hk; omega
            · have h1 := hst3.D.own k hk; have h2 := hst3.bD k hk; omega)
          (hs3.sl (by omega)) (fun k hk => by have hk' : (w.alloc (.cells #[.int .i64 kind, .slice none 0 0, .slice none 0 0, .slice none 0 0] 34)).heap.size ≤ k := hk; simp at hk'; omega) hsl9 HRG.out hgw hc3)
        have HG3 := Lib.hid hg3
        have HS3 := Lib.hid hs3
        clear hc3 hg3 hp3 hs3 hst3 HC2 HP2 HT2 HSL HG2 x1 xf
        have hszs : w.heap.size ≤ (V2.setCell ⟨w.heap.size, 1, none⟩ (.slice SA9 scope.length Sc9)).heap.size := HG3.out.size
        generalize V2.setCell ⟨w.heap.size, 1, none⟩ (.slice SA9 scope.length Sc9) = V3 at *
        rcases hq2 : tableQ x.doms scope r with ⟨p, y⟩ | ⟨rows, r2⟩
        · have HR : Hid (hardQ x.doms kind ts = .error (p, y)) := Lib.hid (HQ2.out.1 _ hq2)
          rw [hq2] at hrc
          clear hq2
          go_wp2_with (go_at_call 105; refine hrc.out.mono ?_; rintro e w' ⟨he, hg⟩; obtain rfl : e = wrongs p y := he; refine ⟨rfl, ?_⟩; rw [HR.out]; exact ⟨rfl, HFB.out _ ((HG3.out.mono (fun j _ h => (by omega : g ≤ j))).trans hg (fun j hj e => by omega))⟩)
        · have HR : Hid (hardQ x.doms kind ts = .ok (⟨kind, scope, rows, []⟩, r2)) := Lib.hid (HQ2.out.2 _ _ hq2)
          rw [hq2] at hrc
          clear hq2
          go_wp2_with (go_at_call 105; refine hrc.out.mono ?_; rintro e V0 ⟨⟨rv, ok9, rfl, hc9, ho9, hok9, hp9, hT9, hrl9⟩, hg9⟩; obtain ⟨RA9, Rc9, rfl, _, _, _⟩ := ho9.sl (by omega); (have HC9 := Lib.hid hc9); (have HP9 := Lib.hid hp9); (have HT9 := Lib.hid hT9); (have HSL := Lib.hid (HS3.out.chg hg9 (fun k hk e => by have := (HS3.out.lt k hk).1; simp at this; omega))); (have HOR := Lib.hid ho9); (have HOK := Lib.hid hok9); (have HG9 := Lib.hid (HG3.out.trans hg9 (fun j hj e => (by omega : j = g ∨ w.heap.size ≤ j)))); clear hc9 ho9 hok9 hp9 hT9 hg9)
          have hszv := HG9.out.size
          have hs9' : PSt g V0.drew.heap.size V0.drew x (.slice DA x.doms.length Dc) hv sv (fun k => ok k ∨ (w.heap.size ≤ k ∧ k < V0.drew.heap.size)) := (HST.out.chg HG9.out.drew (fun k hk => by omega)).fill hszv hgw
          have HKX := Lib.hid (show kCon.K V0.drew (fun k => ok k ∨ (w.heap.size ≤ k ∧ k < V0.drew.heap.size)) ⟨kind, scope, rows, []⟩ [.int .i64 kind, (.slice SA9 scope.length Sc9), (.slice RA9 rows.length Rc9), (.slice none 0 0)] from con_K (((HSL.out.done (B := w.heap.size) (by omega) (by simp)).below (by decide) (Below.drew (Below.refl _ _))).mono fun _ h => Or.inr h) (((HOR.out.done (B := w.heap.size) (by omega) hszs (fun k hk => by have := HOK.out k hk; omega)).below (by decide) (Below.drew (Below.refl _ _))).mono fun _ h => Or.inr h) ((sl_nil none 0).mono fun _ h => Or.inr h))
          obtain ⟨HA9, Hc9, hHv, _, _, _⟩ := hs9'.H.sl (by omega)
          subst hHv
          have HS9 := Lib.hid hs9'
          have HP10 := Lib.hid HP9.out.drew
          have HG10 := Lib.hid HG9.out.drew
          have hc10 : ConAt w.heap.size V0.drew kind _ _ _ := HC9.out
          obtain ⟨A9, n9, c9, hb9, _⟩ := HP10.out
          have x1 := cell_at hb9 (i := 2) rfl
          have x2 := cell_at hc10 (i := 0) rfl
          have x3 := cell_at hc10 (i := 1) rfl
          have x4 := cell_at hc10 (i := 2) rfl
          have x5 := cell_at hc10 (i := 3) rfl
          have HC10 := Lib.hid hc10
          clear hb9 hc10 hs9' HP9 HG9 HC9 HST
          obtain ⟨iC, hiC, hC0, hC1, hC2⟩ := info_parts (show (Tryz.prog.info? 34).map (fun i => (i.zero, i.size, i.bytes)) = some (some (.agg #[.int .i64 0, .slice none 0 0, .slice none 0 0, .slice none 0 0]), 4, 80) by kernel_rfl)
          refine wp_region_lex (fun w' => w'.cell? ⟨g, 2, none⟩ = some (.slice HA9 x.hard.length Hc9) ∧ w'.cell? ⟨w.heap.size, 0, none⟩ = some (.int .i64 kind) ∧ w'.cell? ⟨w.heap.size, 1, none⟩ = some (.slice SA9 scope.length Sc9) ∧ w'.cell? ⟨w.heap.size, 2, none⟩ = some (.slice RA9 rows.length Rc9) ∧ w'.cell? ⟨w.heap.size, 3, none⟩ = some (.slice none 0 0)) [true, true, true, true, true, true, true, false, false, false, false, false, false] (by kernel_rfl) (by kernel_rfl) (fun c a d v w h => by cases d <;> exact h) ?_
          change wpLex _ _ _ _ _ _ _ _ _ (World.drew V0)
          have hV : V0.heap.size ≤ (World.drew V0).heap.size := Nat.le_refl _
          generalize World.drew V0 = V at *
          repeat (first | (refine lex_take ⟨x1, x2, x3, x4, x5⟩ rfl (fun w' hw' => by (obtain ⟨y1, y2, y3, y4, y5⟩ := hw'; (try go_simp); try rfl)) (fun K hK => ?_); go_simp; refine hK _ _ ?_; clear hK K) | (refine lex_take_on _ _ _ _ ⟨x1, x2, x3, x4, x5⟩ rfl rfl rfl rfl (fun w' hw' => by (obtain ⟨y1, y2, y3, y4, y5⟩ := hw'; (try go_simp); try rfl)) (fun K hK => ?_); go_simp; refine hK _ _ ?_; clear hK K) | (refine lex_take_off _ _ _ _ _ ⟨x1, x2, x3, x4, x5⟩ rfl rfl rfl rfl rfl (fun K hK => ?_); go_simp; refine hK _ _ ?_; clear hK K))
          refine lex_step rfl (fun K hK => ?_)
          go_wp2_with fail
          have z1 := cell_kept (below_alloc1 V (.cells #[.int .i64 kind, (.slice SA9 scope.length Sc9), (.slice RA9 rows.length Rc9), (.slice none 0 0)] 34)) x1
          have z2 := cell_kept (below_alloc1 V (.cells #[.int .i64 kind, (.slice SA9 scope.length Sc9), (.slice RA9 rows.length Rc9), (.slice none 0 0)] 34)) x2
          have z3 := cell_kept (below_alloc1 V (.cells #[.int .i64 kind, (.slice SA9 scope.length Sc9), (.slice RA9 rows.length Rc9), (.slice none 0 0)] 34)) x3
          have z4 := cell_kept (below_alloc1 V (.cells #[.int .i64 kind, (.slice SA9 scope.length Sc9), (.slice RA9 rows.length Rc9), (.slice none 0 0)] 34)) x4
          have z5 := cell_kept (below_alloc1 V (.cells #[.int .i64 kind, (.slice SA9 scope.length Sc9), (.slice RA9 rows.length Rc9), (.slice none 0 0)] 34)) x5
          refine hK _ _ ⟨z1, z2, z3, z4, z5⟩ ?_
          clear hK K z1 z2 z3 z4 z5
          have HS11 := Lib.hid (HS9.out.chg (Chg.alloc0 V (.cells #[.int .i64 kind, (.slice SA9 scope.length Sc9), (.slice RA9 rows.length Rc9), (.slice none 0 0)] 34) (fun _ => False)) (fun _ h => h.elim))
          have HK11 := Lib.hid (kCon.chg HKX.out (Chg.alloc0 V (.cells #[.int .i64 kind, (.slice SA9 scope.length Sc9), (.slice RA9 rows.length Rc9), (.slice none 0 0)] 34) (fun _ => False)) (fun _ _ h => h))
          obtain ⟨css, hcs1, hcs2⟩ := HS11.out.H.open_
          have HCS1 := Lib.hid hcs1
          have HCS2 := Lib.hid hcs2
          have HHO := Lib.hid (fun k hk => HS9.out.H.own k hk)
          clear hcs1 hcs2
          refine lex_step rfl (fun K hK => ?_)
          refine wp_append_lies _ _ _ 27 rfl (g + 1) 34 iC _ 4 80 Tryz.underlying27 hiC hC0 hC1 hC2 rfl (by decide) (.slice HA9 x.hard.length Hc9) x.hard.length css.flatten rfl HCS2.out ⟨_, 0, none⟩ 1 1 [.int .i64 kind, (.slice SA9 scope.length Sc9), (.slice RA9 rows.length Rc9), (.slice none 0 0)] rfl rfl (World.news_of_block (cs := #[.int .i64 kind, (.slice SA9 scope.length Sc9), (.slice RA9 rows.length Rc9), (.slice none 0 0)]) (t := 34) (fr := (0, 0)) (heap_alloc_new V _)) (by simp [Value.oneCell']) (by decide) (by simp only [maxLen]; omega) (by omega) (by simp; omega) (V.heap.size + 1) (by simp) ?_
          intro kb cap V3 hown hgrow hat hlt
          have hF3 : Chg (fun k => (Value.slice HA9 x.hard.length Hc9).ownBlock = some k) V V3 := (Chg.alloc0 V _ _).trans (chg_of_grown hgrow) (fun _ _ h => h)
          have hs12 := HS11.out.addH (by simp) HCS1.out HK11.out hgrow hown (hat_of hat (by simp))
          have hp12 := HP10.out.chg hF3 (fun k hk e => by have := (HHO.out k e).1; omega)
          have hc12 : ConAt w.heap.size V3 kind _ _ _ := hF3.heap HC10.out (fun e => (HHO.out _ e).2.2 (Or.inr ⟨Nat.le_refl _, by have := lt_of_block HC10.out; omega⟩))
          obtain ⟨A12, n12, c12, hb12, _⟩ := hp12
          have y1 := cell_at hb12 (i := 2) rfl
          have yf := Lib.frozen_of_heap hb12 2
          have y2 := cell_at hc12 (i := 0) rfl
          have y3 := cell_at hc12 (i := 1) rfl
          have y4 := cell_at hc12 (i := 2) rfl
          have y5 := cell_at hc12 (i := 3) rfl
          have HS12 := Lib.hid hs12
          have HP12 := Lib.hid (show PB g V3 r2 _ _ sv from ⟨A12, n12, c12, hb12, by assumption⟩)
          have HG12 := Lib.hid ((HG10.out.mono (fun j _ h => (by omega : g ≤ j))).trans hF3 (fun j hj e => by have := (HHO.out j e).1; omega))
          clear hown hgrow hat hF3 hs12 hc12 hb12
          refine hK _ _ ⟨y1, y2, y3, y4, y5⟩ ?_
          clear hK K
          refine lex_list _ _ _ _ _ rfl (by kernel_rfl) ?_
          go_wp2
          go_end0
          refine ⟨?_, ?_⟩
          · rw [HR.out]
            exact ⟨rfl, _, _, sv, _, HP12.out.setH _, (HS12.out.chg (chg_setCell V3 g 2 _) (fun k hk => by omega)).later (by rw [Go.Deep.nblk_setCell]; exact Nat.le_refl _), HT9.out⟩
          · exact HFB.out _ (HG12.out.trans (chg_setCell V3 g 2 _) (fun j _ e => by omega))
      · have hk2b : decide (kind ≤ 2) = false := by simpa using hk2
        have HR : Hid (hardQ x.doms kind ts = .ok (⟨kind, scope, [], []⟩, r)) := Lib.hid (by rw [hardQ, if_neg hk6, hq]; simp only; rw [if_neg hk2])
        clear hq hk6 hk2 hE hE1 hp hst hT hp1 hF1 hfb
        go_enter Tryz.func70, Tryz.ntmps70
        go_wp2_with (go_at_call 101; refine hscp.out.mono ?_; rintro e V2 ⟨⟨vs, rfl, hs9, hsl9, hsl0, hp9, hT9⟩, hg9⟩; obtain ⟨SA9, Sc9, rfl, _, _, _⟩ := hs9.sl (by omega); (have hc9 : ConAt w.heap.size V2 kind _ _ _ := hg9.heap hc1 (fun e => by omega)); (have x1 := cell_at hc9 (i := 1) rfl); (have xf := Lib.frozen_of_heap hc9 1); (have HC2 := Lib.hid hc9); (have HP2 := Lib.hid hp9); (have HT9 := Lib.hid hT9); (have HSL2 := Lib.hid hs9); (have HG2 := Lib.hid (((Chg.alloc0 w _ (fun _ => False)).mono (fun _ _ h => h.elim)).trans hg9 (fun j hj e => (by omega : j = g ∨ w.heap.size ≤ j)))); clear hs9 hp9 hT9 hg9 hc9 hc1)
        have hc3 : ConAt w.heap.size (V2.setCell ⟨w.heap.size, 1, none⟩ (.slice SA9 scope.length Sc9)) kind (.slice SA9 scope.length Sc9) (.slice none 0 0) (.slice none 0 0) := by
          have := HC2.out
          unfold ConAt at this ⊢; simp [World.setCell, Array.getElem?_modify, this]
        have HG9 := Lib.hid (HG2.out.trans (chg_setCell V2 w.heap.size 1 (.slice SA9 scope.length Sc9)) (fun j _ e => Or.inr (by omega)))
        have HP9 := Lib.hid (HP2.out.chg (chg_setCell V2 w.heap.size 1 (.slice SA9 scope.length Sc9)) (fun k hk e => by omega))
        have HSL := Lib.hid (HSL2.out.chg (chg_setCell V2 w.heap.size 1 (.slice SA9 scope.length Sc9)) (fun k hk e => by have := (HSL2.out.lt k hk).1; simp at this; omega))
        have HC9 := Lib.hid hc3
        clear hc3 HC2 HP2 HSL2 HG2 x1 xf
        generalize V2.setCell ⟨w.heap.size, 1, none⟩ (.slice SA9 scope.length Sc9) = V0 at *
        have hszv := HG9.out.size
        have hs9' : PSt g V0.drew.heap.size V0.drew x (.slice DA x.doms.length Dc) hv sv (fun k => ok k ∨ (w.heap.size ≤ k ∧ k < V0.drew.heap.size)) := (HST.out.chg HG9.out.drew (fun k hk => by omega)).fill hszv hgw
        have HKX := Lib.hid (show kCon.K V0.drew (fun k => ok k ∨ (w.heap.size ≤ k ∧ k < V0.drew.heap.size)) ⟨kind, scope, [], []⟩ [.int .i64 kind, (.slice SA9 scope.length Sc9), (.slice none 0 0), (.slice none 0 0)] from con_K (((HSL.out.done (B := w.heap.size) (by omega) (by simp)).below (by decide) (Below.drew (Below.refl _ _))).mono fun _ h => Or.inr h) ((sl_nil none 0).mono fun _ h => Or.inr h) ((sl_nil none 0).mono fun _ h => Or.inr h))
        obtain ⟨HA9, Hc9, hHv, _, _, _⟩ := hs9'.H.sl (by omega)
        subst hHv
        have HS9 := Lib.hid hs9'
        have HP10 := Lib.hid HP9.out.drew
        have HG10 := Lib.hid HG9.out.drew
        have hc10 : ConAt w.heap.size V0.drew kind _ _ _ := HC9.out
        obtain ⟨A9, n9, c9, hb9, _⟩ := HP10.out
        have x1 := cell_at hb9 (i := 2) rfl
        have x2 := cell_at hc10 (i := 0) rfl
        have x3 := cell_at hc10 (i := 1) rfl
        have x4 := cell_at hc10 (i := 2) rfl
        have x5 := cell_at hc10 (i := 3) rfl
        have HC10 := Lib.hid hc10
        clear hb9 hc10 hs9' HP9 HG9 HC9 HST
        obtain ⟨iC, hiC, hC0, hC1, hC2⟩ := info_parts (show (Tryz.prog.info? 34).map (fun i => (i.zero, i.size, i.bytes)) = some (some (.agg #[.int .i64 0, .slice none 0 0, .slice none 0 0, .slice none 0 0]), 4, 80) by kernel_rfl)
        refine wp_region_lex (fun w' => w'.cell? ⟨g, 2, none⟩ = some (.slice HA9 x.hard.length Hc9) ∧ w'.cell? ⟨w.heap.size, 0, none⟩ = some (.int .i64 kind) ∧ w'.cell? ⟨w.heap.size, 1, none⟩ = some (.slice SA9 scope.length Sc9) ∧ w'.cell? ⟨w.heap.size, 2, none⟩ = some (.slice none 0 0) ∧ w'.cell? ⟨w.heap.size, 3, none⟩ = some (.slice none 0 0)) [true, true, true, true, true, true, true, false, false, false, false, false, false] (by kernel_rfl) (by kernel_rfl) (fun c a d v w h => by cases d <;> exact h) ?_
        change wpLex _ _ _ _ _ _ _ _ _ (World.drew V0)
        have hV : V0.heap.size ≤ (World.drew V0).heap.size := Nat.le_refl _
        generalize World.drew V0 = V at *
        repeat (first | (refine lex_take ⟨x1, x2, x3, x4, x5⟩ rfl (fun w' hw' => by (obtain ⟨y1, y2, y3, y4, y5⟩ := hw'; (try go_simp); try rfl)) (fun K hK => ?_); go_simp; refine hK _ _ ?_; clear hK K) | (refine lex_take_on _ _ _ _ ⟨x1, x2, x3, x4, x5⟩ rfl rfl rfl rfl (fun w' hw' => by (obtain ⟨y1, y2, y3, y4, y5⟩ := hw'; (try go_simp); try rfl)) (fun K hK => ?_); go_simp; refine hK _ _ ?_; clear hK K) | (refine lex_take_off _ _ _ _ _ ⟨x1, x2, x3, x4, x5⟩ rfl rfl rfl rfl rfl (fun K hK => ?_); go_simp; refine hK _ _ ?_; clear hK K))
        refine lex_step rfl (fun K hK => ?_)
        go_wp2_with fail
        have z1 := cell_kept (below_alloc1 V (.cells #[.int .i64 kind, (.slice SA9 scope.length Sc9), (.slice none 0 0), (.slice none 0 0)] 34)) x1
        have z2 := cell_kept (below_alloc1 V (.cells #[.int .i64 kind, (.slice SA9 scope.length Sc9), (.slice none 0 0), (.slice none 0 0)] 34)) x2
        have z3 := cell_kept (below_alloc1 V (.cells #[.int .i64 kind, (.slice SA9 scope.length Sc9), (.slice none 0 0), (.slice none 0 0)] 34)) x3
        have z4 := cell_kept (below_alloc1 V (.cells #[.int .i64 kind, (.slice SA9 scope.length Sc9), (.slice none 0 0), (.slice none 0 0)] 34)) x4
        have z5 := cell_kept (below_alloc1 V (.cells #[.int .i64 kind, (.slice SA9 scope.length Sc9), (.slice none 0 0), (.slice none 0 0)] 34)) x5
        refine hK _ _ ⟨z1, z2, z3, z4, z5⟩ ?_
        clear hK K z1 z2 z3 z4 z5
        have HS11 := Lib.hid (HS9.out.chg (Chg.alloc0 V (.cells #[.int .i64 kind, (.slice SA9 scope.length Sc9), (.slice none 0 0), (.slice none 0 0)] 34) (fun _ => False)) (fun _ h => h.elim))
        have HK11 := Lib.hid (kCon.chg HKX.out (Chg.alloc0 V (.cells #[.int .i64 kind, (.slice SA9 scope.length Sc9), (.slice none 0 0), (.slice none 0 0)] 34) (fun _ => False)) (fun _ _ h => h))
        obtain ⟨css, hcs1, hcs2⟩ := HS11.out.H.open_
        have HCS1 := Lib.hid hcs1
        have HCS2 := Lib.hid hcs2
        have HHO := Lib.hid (fun k hk => HS9.out.H.own k hk)
        clear hcs1 hcs2
        refine lex_step rfl (fun K hK => ?_)
        refine wp_append_lies _ _ _ 27 rfl (g + 1) 34 iC _ 4 80 Tryz.underlying27 hiC hC0 hC1 hC2 rfl (by decide) (.slice HA9 x.hard.length Hc9) x.hard.length css.flatten rfl HCS2.out ⟨_, 0, none⟩ 1 1 [.int .i64 kind, (.slice SA9 scope.length Sc9), (.slice none 0 0), (.slice none 0 0)] rfl rfl (World.news_of_block (cs := #[.int .i64 kind, (.slice SA9 scope.length Sc9), (.slice none 0 0), (.slice none 0 0)]) (t := 34) (fr := (0, 0)) (heap_alloc_new V _)) (by simp [Value.oneCell']) (by decide) (by simp only [maxLen]; omega) (by omega) (by simp; omega) (V.heap.size + 1) (by simp) ?_
        intro kb cap V3 hown hgrow hat hlt
        have hF3 : Chg (fun k => (Value.slice HA9 x.hard.length Hc9).ownBlock = some k) V V3 := (Chg.alloc0 V _ _).trans (chg_of_grown hgrow) (fun _ _ h => h)
        have hs12 := HS11.out.addH (by simp) HCS1.out HK11.out hgrow hown (hat_of hat (by simp))
        have hp12 := HP10.out.chg hF3 (fun k hk e => by have := (HHO.out k e).1; omega)
        have hc12 : ConAt w.heap.size V3 kind _ _ _ := hF3.heap HC10.out (fun e => (HHO.out _ e).2.2 (Or.inr ⟨Nat.le_refl _, by have := lt_of_block HC10.out; omega⟩))
        obtain ⟨A12, n12, c12, hb12, _⟩ := hp12
        have y1 := cell_at hb12 (i := 2) rfl
        have yf := Lib.frozen_of_heap hb12 2
        have y2 := cell_at hc12 (i := 0) rfl
        have y3 := cell_at hc12 (i := 1) rfl
        have y4 := cell_at hc12 (i := 2) rfl
        have y5 := cell_at hc12 (i := 3) rfl
        have HS12 := Lib.hid hs12
        have HP12 := Lib.hid (show PB g V3 r _ _ sv from ⟨A12, n12, c12, hb12, by assumption⟩)
        have HG12 := Lib.hid ((HG10.out.mono (fun j _ h => (by omega : g ≤ j))).trans hF3 (fun j hj e => by have := (HHO.out j e).1; omega))
        clear hown hgrow hat hF3 hs12 hc12 hb12
        refine hK _ _ ⟨y1, y2, y3, y4, y5⟩ ?_
        clear hK K
        refine lex_list _ _ _ _ _ rfl (by kernel_rfl) ?_
        go_wp2
        go_end0
        refine ⟨?_, ?_⟩
        · rw [HR.out]
          exact ⟨rfl, _, _, sv, _, HP12.out.setH _, (HS12.out.chg (chg_setCell V3 g 2 _) (fun k hk => by omega)).later (by rw [Go.Deep.nblk_setCell]; exact Nat.le_refl _), HT9.out⟩
        · exact HFB.out _ (HG12.out.trans (chg_setCell V3 g 2 _) (fun j _ e => by omega))
end Go.Proofs.YtgpgmmkkmoecmaaGreatDoor

/- inst.parser: soft. -/
namespace Go.Proofs.YtgpgmmkkmoecmaaGreatDoor
open Go.RowKit
attribute [local irreducible] wpStill wpLex Calls

theorem costsQ_end {doms : List (List Int)} {scope : List Int} {n : Nat} {rows : List (List Int)} {costs : List Int} {t : Tok} {r : List Tok} (hi : isP t [44] = false) : costsQ doms scope (n + 1) rows costs (t :: r) = .ok ((rows, costs), t :: r) := by
  rw [costsQ]; simp [isQ, hi]
theorem costsQ_row {doms : List (List Int)} {scope : List Int} {n : Nat} {rows : List (List Int)} {costs : List Int} {t : Tok} {r : List Tok} {e : Int × Int} (hi : isP t [44] = true) (h : rowQ doms scope rows r = .error e) : costsQ doms scope (n + 1) rows costs (t :: r) = .error e := by
  rw [costsQ]; simp [isQ, hi, h]
theorem costsQ_num {doms : List (List Int)} {scope : List Int} {n : Nat} {rows rows' : List (List Int)} {costs : List Int} {t : Tok} {r r1 : List Tok} {e : Int × Int} (hi : isP t [44] = true) (h : rowQ doms scope rows r = .ok (rows', r1)) (hn : numberQ 1000000000000 r1 = .error e) :
    costsQ doms scope (n + 1) rows costs (t :: r) = .error e := by
  rw [costsQ]; simp [isQ, hi, h, hn]
theorem costsQ_go {doms : List (List Int)} {scope : List Int} {n : Nat} {rows rows' : List (List Int)} {costs : List Int} {t u : Tok} {r r1 r2 : List Tok} (hi : isP t [44] = true) (h : rowQ doms scope rows r = .ok (rows', r1)) (hn : numberQ 1000000000000 r1 = .ok (u, r2)) :
    costsQ doms scope (n + 1) rows costs (t :: r) = costsQ doms scope n rows' (costs ++ [u.n]) r2 := by
  rw [costsQ]; simp [isQ, hi, h, hn]
theorem softQ_scope {doms : List (List Int)} {ts : List Tok} {e : Int × Int} (h : scopeQ doms.length ts [] = .error e) : softQ doms ts = .error e := by rw [softQ, h]
theorem softQ_sign {doms : List (List Int)} {ts r : List Tok} {scope : List Int} {e : Int × Int} (h : scopeQ doms.length ts [] = .ok (scope, r)) (h1 : signQ [58] r = .error e) : softQ doms ts = .error e := by rw [softQ, h]; simp only [h1]
theorem softQ_num {doms : List (List Int)} {ts r r1 : List Tok} {scope : List Int} {u : Unit} {e : Int × Int} (h : scopeQ doms.length ts [] = .ok (scope, r)) (h1 : signQ [58] r = .ok (u, r1)) (h2 : numberQ 1000000000000 r1 = .error e) : softQ doms ts = .error e := by
  rw [softQ, h]; simp only [h1, h2]
theorem softQ_costs {doms : List (List Int)} {ts r r1 r2 : List Tok} {scope : List Int} {u : Unit} {t : Tok} {e : Int × Int} (h : scopeQ doms.length ts [] = .ok (scope, r)) (h1 : signQ [58] r = .ok (u, r1)) (h2 : numberQ 1000000000000 r1 = .ok (t, r2))
    (h3 : costsQ doms scope (r2.length + 1) [] [] r2 = .error e) : softQ doms ts = .error e := by rw [softQ, h]; simp only [h1, h2, h3]
theorem softQ_ok {doms : List (List Int)} {ts r r1 r2 r3 : List Tok} {scope costs : List Int} {rows : List (List Int)} {u : Unit} {t : Tok} (h : scopeQ doms.length ts [] = .ok (scope, r)) (h1 : signQ [58] r = .ok (u, r1)) (h2 : numberQ 1000000000000 r1 = .ok (t, r2))
    (h3 : costsQ doms scope (r2.length + 1) [] [] r2 = .ok ((rows, costs), r3)) : softQ doms ts = .ok (⟨scope, rows, costs, t.n⟩, r3) := by rw [softQ, h]; simp only [h1, h2, h3]
theorem signQ_ok {s : List UInt8} {t : Tok} {r r1 : List Tok} {u : Unit} (h : signQ s (t :: r) = .ok (u, r1)) : r1 = r := by
  rw [signQ] at h
  split at h
  · injection h with h; injection h with _ h; exact h.symm
  · cases h
theorem sft_K {w : World} {ok : Nat → Prop} {dflt : Int} {vs vr vc : Value} {scope costs : List Int} {rows : List (List Int)} (hs : Sl (Kd.int .i64) w ok vs scope) (hr : Sl kRow w ok vr rows) (hc : Sl (Kd.int .i64) w ok vc costs) :
    kSft.K w ok ⟨scope, rows, costs, dflt⟩ [vs, vr, vc, .int .i64 dflt] :=
  ⟨[_], [_, _, _], rfl, ⟨_, rfl, hs⟩, [_], [_, _], rfl, ⟨_, rfl, hr⟩, [_], [_], rfl, ⟨_, rfl, hc⟩, rfl⟩
/-- A soft constraint in a block of its own. -/
def SftAt (gc : Nat) (w : World) (vs vr vc : Value) (d : Int) : Prop := w.heap[gc]? = some (.cells #[vs, vr, vc, .int .i64 d] 37 (0, 0))
/-- A row of costs of the call's own. -/
abbrev OwnC (base : Nat) (v : Value) (xs : List Int) (w : World) : Prop := OwnD (Kd.int .i64) 2 base (fun _ => False) v xs w
theorem tok_field (k n a : Int) (s : ByteArray) (w : World) : (Instr.field 82 (.agg #[.int .i64 k, .string s, .int .i64 n, .int .i64 a]) 2).run Tryz.prog w = .ok (.int .i64 n) w := by kernel_rfl
def SoftOut (g : Nat) (w' : World) (x : Ins) (e : Ending) (s : Sft) (r : List Tok) : Prop := e = .returned (.tuple #[]) ∧ PAll g w' r { x with soft := x.soft ++ [s] }
def SoftRel (g gc : Nat) (w : World) (doms : List (List Int)) (scope : List Int) (vs : Value) (d : Int) (dv hv sv : Value) (res : PR (List (List Int) × List Int)) (k : Nat) (wr : World) : Prop :=
  ∃ ts' rows costs rv cv ok' n, k = ts'.length ∧ res = costsQ doms scope (n + 1) rows costs ts' ∧ ts'.length ≤ n ∧ rows.length + ts'.length ≤ 200000 ∧ costs.length ≤ rows.length ∧ SftAt gc wr vs rv cv d ∧ OwnD kRow 32 (gc + 1) ok' rv rows wr ∧ OwnC (gc + 1) cv costs wr ∧
    (∀ k, ok' k → gc < k ∧ k < wr.heap.size) ∧ (∀ k, cv.ownBlock = some k → ¬ ok' k) ∧ OwnI w.heap.size vs scope wr ∧ PB g wr ts' dv hv sv ∧ Toks ts' ∧ Chg (fun k => k = g ∨ w.heap.size ≤ k) w wr ∧ gc < wr.heap.size

set_option maxRecDepth 100000 in
set_option maxHeartbeats 4000000 in
theorem soft_p (g : Nat) (w : World) (ts : List Tok) (x : Ins) (h : PAll g w ts x) (hx : x.soft.length ≤ 200) (hd : x.doms.length ≤ 40) (htl : ts.length ≤ 150000) :
    Calls Tryz.prog 69 #[.pointer (some ⟨g, 0, none⟩)] w fun e w' => Out (softQ x.doms ts) (SoftOut g w' x e) e ∧ Below g w w' := by
  obtain ⟨dv, hv, sv, ok, hp, hst, hT⟩ := h
  have hgw := hp.lt
  obtain ⟨DA, Dc, rfl, _, _, _⟩ := hst.D.sl (by omega)
  have hfb : ∀ w', Chg (fun k => g ≤ k) w w' → Below g w w' := fun w' h => h.below (fun k hk e => by omega) (by omega)
  have HFB := Lib.hid hfb
  have HST := Lib.hid hst
  have hscp := Lib.hid (scope_p g _ ts DA x.doms.length Dc hv sv hp hT (by omega))
  obtain ⟨out, hout⟩ : ∃ out, out = softQ x.doms ts := ⟨_, rfl⟩
  rw [← hout]
  have HOUT := Lib.hid hout
  clear hfb hp hst hT hout
  rcases hq : scopeQ x.doms.length ts [] with ⟨p, y⟩ | ⟨scope, r⟩
  · have HR : Hid (out = .error (p, y)) := Lib.hid (by rw [HOUT.out, softQ_scope hq])
    rw [hq] at hscp
    clear hq
    go_enter Tryz.func69, Tryz.ntmps69
    go_wp2_with (go_at_call 101; refine hscp.out.mono ?_; rintro e w' ⟨he, hg⟩; obtain rfl : e = wrongs p y := he; refine ⟨rfl, ?_⟩; rw [HR.out]; exact ⟨rfl, HFB.out _ (hg.mono (fun j hj e => by omega))⟩)
  · rw [hq] at hscp
    have HRG := Lib.hid (scopeQ_range ts [] scope r hq (fun v h => by simp at h))
    have hrl := scopeQ_len ts [] scope r hq
    have HQ := Lib.hid hq
    clear hq
    go_enter Tryz.func69, Tryz.ntmps69
    go_wp2_with (go_at_call 101; refine hscp.out.mono ?_; rintro e V2 ⟨⟨vs, rfl, hs9, hsl9, hsl0, hp9, hT9⟩, hg9⟩; obtain ⟨SA9, Sc9, rfl, _, _, _⟩ := hs9.sl (by omega); (have HP2 := Lib.hid hp9); (have HT2 := Lib.hid hT9); (have HSL2 := Lib.hid hs9); (have HG2 := Lib.hid hg9); clear hs9 hp9 hT9 hg9)
    obtain ⟨t2, r2, rfl⟩ := HT2.out.cons
    have hsz2 := HG2.out.size
    have hsg := sign_q g _ t2 r2 _ hv sv [58] (HP2.out.alloc (.cells #[.slice SA9 scope.length Sc9, .slice none 0 0, .slice none 0 0, .int .i64 0] 37)) HT2.out
    rcases hsq : signQ [58] (t2 :: r2) with ⟨p, y⟩ | ⟨u0, r3⟩
    · have HR : Hid (out = .error (p, y)) := Lib.hid (by rw [HOUT.out, softQ_sign HQ.out hsq])
      rw [hsq] at hsg
      refine hsg.mono ?_
      rintro e w' ⟨he, hg⟩
      obtain rfl : e = wrongs p y := he
      refine ⟨rfl, ?_⟩
      rw [HR.out]
      exact ⟨rfl, HFB.out _ (((HG2.out.mono (fun j _ e => (by omega : g ≤ j))).alloc _).trans hg (fun j hj e => by omega))⟩
    · rw [hsq] at hsg
      refine hsg.mono ?_
      rintro e V3 ⟨⟨rfl, hp3, hT3⟩, hg3⟩
      have hsr := signQ_ok hsq
      obtain ⟨t3, r3, rfl⟩ := hT3.cons
      subst hsr
      have hnm := Lib.hid (number_q g V3 t3 r3 _ _ _ 1000000000000 (by decide) (by decide) hp3)
      have hc3 : SftAt V2.heap.size V3 (.slice SA9 scope.length Sc9) (.slice none 0 0) (.slice none 0 0) 0 := hg3.heap (heap_alloc_new V2 _) (fun e => by omega)
      have HC3 := Lib.hid hc3
      have HS3 := Lib.hid (((HSL2.out.chg (Chg.alloc0 V2 _ (fun _ => False)) (fun _ _ h => h.elim))).chg hg3 (fun k hk e => by have := (HSL2.out.lt k hk).1; omega))
      have HG3 := Lib.hid (((HG2.out.mono (fun j _ e => (Or.inl e : j = g ∨ w.heap.size ≤ j))).alloc _).trans hg3 (fun j hj e => Or.inl e))
      have HT3 := Lib.hid hT3
      have HSQ := Lib.hid hsq
      have hsvo := Lib.hid (fun k hk => HSL2.out.lt k hk)
      clear hsg hp3 hT3 hg3 hsq hc3 HP2 HT2 HSL2 HG2
      rcases hn : numberQ 1000000000000 (t3 :: r3) with ⟨p, y⟩ | ⟨t4, r4⟩
      · have HR : Hid (out = .error (p, y)) := Lib.hid (by rw [HOUT.out, softQ_num HQ.out HSQ.out hn])
        rw [hn] at hnm
        clear hn
        go_wp2_with (go_at_call 100; refine hnm.out.mono ?_; rintro e w' ⟨he, hg⟩; obtain rfl : e = wrongs p y := he; refine ⟨rfl, ?_⟩; rw [HR.out]; exact ⟨rfl, HFB.out _ ((HG3.out.mono (fun j _ e => (by omega : g ≤ j))).trans hg (fun j hj e => by omega))⟩)
      · obtain ⟨h1, h2⟩ := numberQ_ok hn
        injection h1 with h1a h1b
        subst h1a h1b
        rw [hn] at hnm
        have HT4 := Lib.hid (HT3.out.tail h2)
        have HTK : Hid (tokC t3 = [.int .i64 t3.kind, .string ⟨t3.text.toArray⟩, .int .i64 t3.n, .int .i64 t3.at_]) := Lib.hid rfl
        have HN := Lib.hid hn
        have hfld := tok_field
        clear HT3 h2 hn
        go_wp2_with (go_at_call 100; refine hnm.out.mono ?_; rintro e V4 ⟨⟨rfl, hp4⟩, hg4⟩; (have hc4 : SftAt V2.heap.size V4 _ _ _ _ := hg4.heap HC3.out (fun e => by omega)); (have x1 := cell_at hc4 (i := 3) rfl); (have xf := Lib.frozen_of_heap hc4 3); (have HC4 := Lib.hid hc4); (have HP4 := Lib.hid hp4); (have HG4 := Lib.hid (HG3.out.trans hg4 (fun j _ e => Or.inl e))); (have HS4 := Lib.hid (HS3.out.chg hg4 (fun k hk e => by have := (HS3.out.lt k hk).1; omega))); clear hc4 hp4 hg4; rw [HTK.out])
        have hc5 : SftAt V2.heap.size (V4.setCell ⟨V2.heap.size, 3, none⟩ (.int .i64 t3.n)) (.slice SA9 scope.length Sc9) (.slice none 0 0) (.slice none 0 0) t3.n := by
          have := HC4.out
          unfold SftAt at this ⊢; simp [World.setCell, Array.getElem?_modify, this]
        have HC5 := Lib.hid hc5
        have HP5 := Lib.hid (HP4.out.chg (chg_setCell V4 V2.heap.size 3 (.int .i64 t3.n)) (fun k hk e => by omega))
        have HG5 := Lib.hid (HG4.out.trans (chg_setCell V4 V2.heap.size 3 (.int .i64 t3.n)) (fun j hj e => Or.inr (by omega)))
        have HS5 := Lib.hid (HS4.out.chg (chg_setCell V4 V2.heap.size 3 (.int .i64 t3.n)) (fun k hk e => by have := (hsvo.out k hk).2; omega))
        obtain ⟨res, hres⟩ : ∃ res, res = costsQ x.doms scope (r3.length + 1) [] [] r3 := ⟨_, rfl⟩
        have HRES := Lib.hid hres
        have HOK := Lib.hid (show (∀ e, res = .error e → out = .error e) ∧ (∀ rows costs r4, res = .ok ((rows, costs), r4) → out = .ok (⟨scope, rows, costs, t3.n⟩, r4)) from
          ⟨fun e h => by rw [HOUT.out]; exact softQ_costs HQ.out HSQ.out HN.out (hres.symm.trans h), fun rows costs r4 h => by rw [HOUT.out]; exact softQ_ok HQ.out HSQ.out HN.out (hres.symm.trans h)⟩)
        have hl3 : r3.length ≤ 150000 := by simp at hrl; omega
        clear hc5 HC4 HP4 HG4 HS4 x1 xf hres HOUT HQ HSQ HN HC3 HS3 HG3 hnm hscp
        generalize V4.setCell ⟨V2.heap.size, 3, none⟩ (.int .i64 t3.n) = V5 at *
        have hgsz : w.heap.size ≤ V2.heap.size := hsz2
        generalize V2.heap.size = gs at *
        go_loopg [12] r3.length (fun k _ wr => SoftRel g gs w x.doms scope (.slice SA9 scope.length Sc9) t3.n (.slice DA x.doms.length Dc) hv sv res k wr)
        case atStart => exact ⟨r3, [], [], _, _, (fun _ => False), r3.length, rfl, HRES.out, Nat.le_refl _, by simp; omega, Nat.le_refl _, HC5.out, OwnD.nil _ _ _ _ _, OwnD.nil _ _ _ _ _, fun _ h => h.elim, fun _ _ h => h, HS5.out, HP5.out, HT4.out, HG5.out, lt_of_block HC5.out⟩
        case round =>
          clear HC5 HP5 HG5 HS5 HT4
          obtain ⟨ts3, rows, costs, rv, cv, ok3, fu, hk, hq, hfu, hal, hlc, hc, ho, hoc, hok, hcok, hs, hp, hT3, hch, hsz⟩ := hrel
          obtain ⟨t5, r5, rfl⟩ := hT3.cons
          obtain ⟨RA, Rc, rfl, _, _, _⟩ := ho.sl (by omega)
          obtain ⟨CA, Cc, rfl, _, _, _⟩ := hoc.sl (by omega)
          have hisc := Lib.hid (is_any g _ t5 r5 _ hv sv [44] hp)
          have HK := Lib.hid hk
          have HQ := Lib.hid hq
          have HC := Lib.hid hc
          have HO := Lib.hid ho
          have HOC := Lib.hid hoc
          have HOK3 := Lib.hid hok
          have HCK := Lib.hid hcok
          have HS := Lib.hid hs
          have HT := Lib.hid hT3
          have HG := Lib.hid hch
          clear hk hq hc ho hoc hok hcok hs hp hT3 hch
          by_cases hi5 : isP t5 [44] = true
          · have hT6 := HT.out.tail (isP_kind hi5)
            simp only [hi5, if_true] at hisc
            have HI5 := Lib.hid hi5
            clear hi5 HT
            go_wp2_with (go_at_call 102; refine hisc.out.mono ?_; rintro e V6 ⟨rfl, hp6, hg6⟩; (have hf6 := chg_g hg6 (fun k => k = g) rfl); (have hc6 : SftAt gs V6 _ _ _ _ := hf6.heap HC.out (fun e => by omega)); (have x1 := cell_at hc6 (i := 0) rfl); (have x2 := cell_at hc6 (i := 1) rfl); (have HC6 := Lib.hid hc6); (have HP6 := Lib.hid hp6); (have HF6 := Lib.hid hf6); clear hc6 hp6 hg6 hf6)
            have ho6 := HO.out.chg HF6.out (fun k hk e => by have := HOK3.out k hk; omega) (fun k hk e => by have := HO.out.own k hk; omega)
            have hoc6 := HOC.out.chg HF6.out (fun k hk e => hk) (fun k hk e => by have := HOC.out.own k hk; omega)
            have hs6 := HS.out.chg HF6.out (fun k hk e => by have := (HS.out.lt k hk).1; omega)
            have hg6 := HG.out.trans HF6.out (fun j _ e => Or.inl e)
            have hsz6 := HF6.out.size
            have hst6 := HST.out.chg hg6 (fun k hk => by omega)
            have hrc := row_p g (gs + 1) V6 r5 x.doms DA Dc hv sv _ _ ok3 scope SA9 Sc9 rows _ HP6.out hT6 (hst6.D.sl (by omega)) (fun k hk => by
                rcases hk with hk | hk
                · exact (hst6.okg k hk).1
                · have := hst6.D.own k hk; omega)
              (hs6.sl (by omega)) (fun k hk => by have hk' : w.heap.size ≤ k := hk; omega) hsl9 HRG.out ho6 (by omega) (by omega) (fun k hk => by have := HOK3.out k hk; omega) (by omega)
            have hvr : ∀ k, (Value.slice SA9 scope.length Sc9).ownBlock = some k → ¬ (Value.slice RA rows.length Rc).ownBlock = some k := fun k hk e => by
              have h1 := (hsvo.out k hk).2; have h2 := (HO.out.own k e).1; omega
            have hcr : ∀ k, (Value.slice CA costs.length Cc).ownBlock = some k → ¬ (Value.slice RA rows.length Rc).ownBlock = some k := hoc6.apart ho6 (by decide)
            have HRC := Lib.hid hrc
            have HOC6 := Lib.hid hoc6
            have HS6 := Lib.hid hs6
            have HG6 := Lib.hid hg6
            have HVR := Lib.hid hvr
            have HCR := Lib.hid hcr
            have HRO := Lib.hid (fun k hk => HO.out.own k hk)
            have HCO := Lib.hid (fun k hk => hoc6.own k hk)
            clear ho6 hoc6 hs6 hg6 hst6 hrc hvr hcr x1 x2 HP6
            rcases hrq : rowQ x.doms scope rows r5 with ⟨p, y⟩ | ⟨rows2, r6⟩
            · have HR : Hid (out = .error (p, y)) := Lib.hid (HOK.out.1 _ (by rw [HQ.out]; exact costsQ_row HI5.out hrq))
              rw [hrq] at HRC
              clear hrq
              refine HRC.out.mono ?_
              rintro e w' ⟨he, hg⟩
              obtain rfl : e = wrongs p y := he
              refine ⟨rfl, ?_⟩
              rw [HR.out]
              exact ⟨rfl, HFB.out _ ((HG6.out.mono (fun j _ e => (by omega : g ≤ j))).trans hg (fun j hj e => by
                rcases e with e | e
                · omega
                · have := (HRO.out j e).1; omega))⟩
            · have hln0 := rowQ_len hrq
              have hln := hln0.1
              have hrl2 : rows2.length ≤ rows.length + 1 := by omega
              have hrl3 : rows.length + 1 ≤ rows2.length := by omega
              have HRQ := Lib.hid hrq
              rw [hrq] at HRC
              clear hrq hln0
              refine HRC.out.mono ?_
              rintro e V7 ⟨⟨v7, ok7, rfl, ho7, hok7, hp7, hT7, hat7⟩, hg7⟩
              obtain ⟨RB, Rd, rfl, _, _, _⟩ := ho7.sl (by omega)
              obtain ⟨t7, r7, rfl⟩ := hT7.cons
              have hc7 : SftAt gs V7 _ _ _ _ := hg7.heap HC6.out (fun e => by
                rcases e with e | e
                · omega
                · have := (HRO.out gs e).1; omega)
              have x2 := cell_at hc7 (i := 1) rfl
              have xf := Lib.frozen_of_heap hc7 1
              have hsz7 := hg7.size
              have hc8 : SftAt gs (V7.setCell ⟨gs, 1, none⟩ (.slice RB rows2.length Rd)) (.slice SA9 scope.length Sc9) (.slice RB rows2.length Rd) (.slice CA costs.length Cc) t3.n := by
                unfold SftAt at hc7 ⊢; simp [World.setCell, Array.getElem?_modify, hc7]
              have hF8 : Chg (fun k => k = g ∨ k = gs ∨ (Value.slice RA rows.length Rc).ownBlock = some k) V6 (V7.setCell ⟨gs, 1, none⟩ (.slice RB rows2.length Rd)) := (hg7.mono (fun j _ h => by rcases h with h | h; exact Or.inl h; exact Or.inr (Or.inr h))).trans (chg_setCell V7 gs 1 _) (fun j _ e => Or.inr (Or.inl e))
              have hs8 := HS6.out.chg hF8 (fun k hk e => by
                have h1 := (hsvo.out k hk)
                rcases e with e | e | e
                · omega
                · omega
                · exact HVR.out k hk e)
              have hoc8 := HOC6.out.chg hF8 (fun k hk e => hk) (fun k hk e => by
                have h1 := HCO.out k hk
                rcases e with e | e | e
                · omega
                · omega
                · exact HCR.out k hk e)
              have ho8 := ho7.chg (chg_setCell V7 gs 1 (.slice RB rows2.length Rd)) (fun k hk e => by
                rcases hok7 k hk with h | h
                · have := HOK3.out k h; omega
                · omega) (fun k hk e => by have := ho7.own k hk; omega)
              have hp8 := hp7.chg (chg_setCell V7 gs 1 (.slice RB rows2.length Rd)) (fun k hk e => by omega)
              have hg8 := HG6.out.trans hF8 (fun j hj e => by
                rcases e with e | e | e
                · exact Or.inl e
                · exact Or.inr (by omega)
                · have := (HRO.out j e).1; exact Or.inr (by omega))
              have hck8 : ∀ k, (Value.slice CA costs.length Cc).ownBlock = some k → ¬ ok7 k := fun k hk h => by
                rcases hok7 k h with h | h
                · exact HCK.out k hk h
                · have := (HCO.out k hk).2.1; omega
              have hok8 : ∀ k, ok7 k → gs < k ∧ k < V7.heap.size := fun k hk => by
                rcases hok7 k hk with h | h
                · have := HOK3.out k h; omega
                · omega
              have hnm8 := Lib.hid (number_q g _ t7 r7 _ _ _ 1000000000000 (by decide) (by decide) hp8.drew)
              have HC8 := Lib.hid hc8
              have HS8 := Lib.hid hs8
              have HOC8 := Lib.hid hoc8
              have HO8 := Lib.hid ho8
              have HG8 := Lib.hid hg8
              have HCK8 := Lib.hid hck8
              have HOK8 := Lib.hid hok8
              have HT7 := Lib.hid hT7
              have hszs : V7.heap.size ≤ (V7.setCell ⟨gs, 1, none⟩ (.slice RB rows2.length Rd)).heap.size := by rw [Go.Deep.nblk_setCell]; exact Nat.le_refl _
              clear ho7 hok7 hp7 hT7 hat7 hg7 hc7 hc8 hF8 hs8 hoc8 ho8 hp8 hg8 hck8 hok8 HC6 HS6 HOC6 HG6 HC HO HOC HS HG hisc
              go_wp2_with fail
              obtain ⟨i6, hi6, hz0, hz1, hz2⟩ := info_parts (show (Tryz.prog.info? 2).map (fun i => (i.zero, i.size, i.bytes)) = some (some (.int .i64 0), 1, 8) by kernel_rfl)
              have hc8' : SftAt gs (V7.setCell ⟨gs, 1, none⟩ (.slice RB rows2.length Rd)).drew _ _ _ _ := HC8.out
              have x1 := cell_at hc8' (i := 2) rfl
              refine wp_region_lex (fun w' => w'.cell? ⟨gs, 2, none⟩ = some (.slice CA costs.length Cc)) [true, true, true, false, false, false, false, false, false] (by kernel_rfl) (by kernel_rfl) (fun c a d v w h => by cases d <;> exact h) ?_
              change wpLex _ _ _ _ _ _ _ _ _ (World.drew (V7.setCell ⟨gs, 1, none⟩ (.slice RB rows2.length Rd)))
              have HC9 := Lib.hid hc8'
              have HG9 := Lib.hid HG8.out.drew
              have HS9 := Lib.hid (HS8.out.chg (chg_of_below (Below.drew (Below.refl _ _)) (fun _ => False)) (fun _ _ h => h.elim))
              have HOC9 := Lib.hid (HOC8.out.chg (chg_of_below (Below.drew (Below.refl _ _)) (fun _ => False)) (fun _ h => h.elim) (fun _ _ h => h.elim))
              have HO9 := Lib.hid (HO8.out.chg (chg_of_below (Below.drew (Below.refl _ _)) (fun _ => False)) (fun _ _ h => h.elim) (fun _ _ h => h.elim))
              have hszd : V7.heap.size ≤ (World.drew (V7.setCell ⟨gs, 1, none⟩ (.slice RB rows2.length Rd))).heap.size := hszs
              clear hc8' HC8 HG8 HS8 HOC8 HO8 hszs
              generalize World.drew (V7.setCell ⟨gs, 1, none⟩ (.slice RB rows2.length Rd)) = V8 at *
              repeat (first | (refine lex_take x1 rfl (fun w' hw' => by (obtain y1 := hw'; (try go_simp); try rfl)) (fun K hK => ?_); go_simp; refine hK _ _ ?_; clear hK K) | (refine lex_take_on _ _ _ _ x1 rfl rfl rfl rfl (fun w' hw' => by (obtain y1 := hw'; (try go_simp); try rfl)) (fun K hK => ?_); go_simp; refine hK _ _ ?_; clear hK K) | (refine lex_take_off _ _ _ _ _ x1 rfl rfl rfl rfl rfl (fun K hK => ?_); go_simp; refine hK _ _ ?_; clear hK K))
              refine lex_step rfl (fun K hK => ?_)
              rcases hn7 : numberQ 1000000000000 (t7 :: r7) with ⟨p, y⟩ | ⟨t8, r8⟩
              · have HR : Hid (out = .error (p, y)) := Lib.hid (HOK.out.1 _ (by rw [HQ.out]; exact costsQ_num HI5.out HRQ.out hn7))
                rw [hn7] at hnm8
                clear hn7
                go_wp2_with (go_at_call 100; refine hnm8.out.mono ?_; rintro e w' ⟨he, hg⟩; obtain rfl : e = wrongs p y := he; refine ⟨rfl, ?_⟩; rw [HR.out]; exact ⟨rfl, HFB.out _ ((HG9.out.mono (fun j _ e => (by omega : g ≤ j))).trans hg (fun j hj e => by omega))⟩)
              · have HR : Hid (res = costsQ x.doms scope fu rows2 (costs ++ [t8.n]) r8) := Lib.hid (by rw [HQ.out]; exact costsQ_go HI5.out HRQ.out hn7)
                obtain ⟨hz8, hk8⟩ := numberQ_ok hn7
                injection hz8 with hz8a hz8b
                subst hz8a hz8b
                have HT8 := Lib.hid (HT7.out.tail hk8)
                rw [hn7] at hnm8
                have HTK7 : Hid (tokC t7 = [.int .i64 t7.kind, .string ⟨t7.text.toArray⟩, .int .i64 t7.n, .int .i64 t7.at_]) := Lib.hid rfl
                clear hn7 hk8 HQ HRQ HI5
                go_wp2_with (go_at_call 100; refine hnm8.out.mono ?_; rintro e V9 ⟨⟨rfl, hp9⟩, hg9⟩; rw [HTK7.out])
                have hc9 : SftAt gs V9 _ _ _ _ := hg9.heap HC9.out (fun e => by omega)
                have z1 := cell_at hc9 (i := 2) rfl
                have HC10 := Lib.hid hc9
                have HP10 := Lib.hid hp9
                have HG10 := Lib.hid (HG9.out.trans hg9 (fun j _ e => Or.inl e))
                have HS10 := Lib.hid (HS9.out.chg hg9 (fun k hk e => by have := (HS9.out.lt k hk).1; omega))
                have HO10 := Lib.hid (HO9.out.chg hg9 (fun k hk e => by have := HOK8.out k hk; omega) (fun k hk e => by have := HO9.out.own k hk; omega))
                have hoc10 := HOC9.out.chg hg9 (fun k hk e => hk) (fun k hk e => by have := HOC9.out.own k hk; omega)
                have hoc11 := hoc10.chg (Chg.alloc0 V9 (.cells #[.int .i64 t7.n] 2) (fun _ => False)) (fun _ h => h.elim) (fun _ _ h => h.elim)
                obtain ⟨css, hcs1, hcs2⟩ := hoc11.open_
                have HCS1 := Lib.hid hcs1
                have HCS2 := Lib.hid hcs2
                have HCO2 := Lib.hid (fun k hk => hoc10.own k hk)
                have HAP := Lib.hid (hoc10.apart HO10.out (by decide))
                have hsz9 := hg9.size
                clear hc9 hp9 hg9 hoc10 hoc11 hcs1 hcs2 HC9 HG9 HS9 HOC9 HO9 x1 hnm8
                refine hK _ _ z1 ?_
                clear hK K
                refine lex_step rfl (fun K hK => ?_)
                go_wp2_with fail
                refine hK _ _ z1 ?_
                clear hK K
                refine lex_step rfl (fun K hK => ?_)
                go_wp2_with fail
                have z2 := cell_kept (below_alloc1 V9 (.cells #[.int .i64 t7.n] 2)) z1
                refine hK _ _ z2 ?_
                clear hK K
                refine lex_step rfl (fun K hK => ?_)
                refine wp_append_lies _ _ _ 35 rfl (gs + 1) 2 i6 _ 1 8 Tryz.underlying35 hi6 hz0 hz1 hz2 rfl (by decide) (.slice CA costs.length Cc) costs.length css.flatten rfl HCS2.out ⟨_, 0, none⟩ 1 1 [.int .i64 t7.n] rfl rfl (World.news_of_block (cs := #[.int .i64 t7.n]) (t := 2) (fr := (0, 0)) (heap_alloc_new V9 _)) (by simp [Value.oneCell']) (by decide) (by simp only [maxLen]; omega) (by omega) (by simp; omega) (V9.heap.size + 1) (by simp) ?_
                intro kb cap V10 hown hgrow hat hlt
                have hF10 : Chg (fun k => (Value.slice CA costs.length Cc).ownBlock = some k) V9 V10 := (Chg.alloc0 V9 _ _).trans (chg_of_grown hgrow) (fun _ _ h => h)
                have hoc12 : OwnC (gs + 1) (.slice (some ⟨kb, 0, none⟩) (costs.length + 1) cap) (costs ++ [t7.n]) V10 := OwnD.snoc (d := Kd.int .i64) (x := t7.n) (cs := [.int .i64 t7.n]) HCS1.out.1 HCS1.out.2.1 HCS1.out.2.2 rfl hgrow hown (hat_of hat (by simp)) (fun k h => h.elim)
                have hc12 : SftAt gs V10 _ _ _ _ := hF10.heap HC10.out (fun e => by have := (HCO2.out gs e).1; omega)
                have y1 := cell_at hc12 (i := 2) rfl
                have yf := Lib.frozen_of_heap hc12 2
                have HF10 := Lib.hid hF10
                have HOC12 := Lib.hid hoc12
                have HC12 := Lib.hid hc12
                have hkb : ∀ k, (Value.slice (some ⟨kb, 0, none⟩) (costs.length + 1) cap).ownBlock = some k → ¬ ok7 k := fun k hk h => by
                  have h3 : kb = k := by simpa [Value.ownBlock] using hk
                  rcases hat with h4 | h4
                  · exact HCK8.out k (h3 ▸ h4) h
                  · have := HOK8.out k h; omega
                have HKB := Lib.hid hkb
                have hsz10 := hF10.size
                clear hown hgrow hat hF10 hoc12 hc12 hkb z1 z2
                refine hK _ _ y1 ?_
                clear hK K
                refine lex_list _ _ _ _ _ rfl (by kernel_rfl) ?_
                obtain ⟨f2, hf2⟩ : ∃ f2, fu = f2 + 1 := ⟨fu - 1, by simp only [List.length_cons] at hfu hln; omega⟩
                rw [hf2] at HR
                have HK2 := Lib.hid (show r7.length < gk by have := HK.out; simp only [List.length_cons] at this hln; omega)
                go_wp2
                have hF12 : Chg (fun k => k = gs ∨ (Value.slice CA costs.length Cc).ownBlock = some k) V9 (V10.setCell ⟨gs, 2, none⟩ (.slice (some ⟨kb, 0, none⟩) (costs.length + 1) cap)) := (HF10.out.mono (fun _ _ h => Or.inr h)).trans (chg_setCell V10 gs 2 _) (fun _ _ h => Or.inl h)
                go_roundg r7.length
                case rel =>
                  simp only [List.length_cons] at hfu hln hal
                  refine ⟨r7, rows2, costs ++ [t7.n], .slice RB rows2.length Rd, .slice (some ⟨kb, 0, none⟩) (costs.length + 1) cap, ok7, f2, rfl, HR.out, by omega, by omega, by simp; omega, ?_, ?_, ?_, ?_, HKB.out, ?_, ?_, HT8.out, ?_, ?_⟩
                  · have := HC12.out
                    unfold SftAt at this ⊢; simp [World.setCell, Array.getElem?_modify, this]
                  · refine HO10.out.chg hF12 (fun k hk e => ?_) (fun k hk e => ?_)
                    · rcases e with e | e
                      · have := HOK8.out k hk; omega
                      · exact HCK8.out k e hk
                    · rcases e with e | e
                      · have := HO10.out.own k hk; omega
                      · exact HAP.out k e hk
                  · exact HOC12.out.chg (chg_setCell V10 gs 2 _) (fun _ h => h.elim) (fun k hk e => by have := HOC12.out.own k hk; omega)
                  · intro k hk
                    have := HOK8.out k hk
                    rw [Go.Deep.nblk_setCell]; omega
                  · refine HS10.out.chg hF12 (fun k hk e => ?_)
                    have h1 := hsvo.out k hk
                    rcases e with e | e
                    · omega
                    · have := (HCO2.out k e).1; omega
                  · exact HP10.out.chg hF12 (fun k hk e => by
                      rcases e with e | e
                      · omega
                      · have := (HCO2.out k e).1; omega)
                  · exact HG10.out.trans hF12 (fun j hj e => by
                      rcases e with e | e
                      · exact Or.inr (by omega)
                      · have := (HCO2.out j e).1; exact Or.inr (by omega))
                  · rw [Go.Deep.nblk_setCell]; have := lt_of_block HC12.out; omega
                case measure => exact HK2.out
          · have hi5 := Bool.eq_false_iff.2 hi5
            simp only [hi5, if_false, Bool.false_eq_true] at hisc
            have HR : Hid (out = .ok (⟨scope, rows, costs, t3.n⟩, t5 :: r5)) := Lib.hid (HOK.out.2 _ _ _ (by rw [HQ.out]; exact costsQ_end hi5))
            clear hi5
            go_wp2_with (go_at_call 102; refine hisc.out.mono ?_; rintro e V0 ⟨rfl, hp6, hg6⟩; (have hf6 := chg_g hg6 (fun k => k = g) rfl); (have HP9 := Lib.hid hp6.drew); (have HF9 := Lib.hid hf6.drew); clear hp6 hg6 hf6)
            have HG9 := Lib.hid (HG.out.trans HF9.out (fun j _ e => Or.inl e))
            have hc10 : SftAt gs V0.drew _ _ _ _ := HF9.out.heap HC.out (fun e => by omega)
            have ho9 := HO.out.chg HF9.out (fun k hk e => by have := HOK3.out k hk; omega) (fun k hk e => by have := HO.out.own k hk; omega)
            have hoc9 := HOC.out.chg HF9.out (fun k hk e => hk) (fun k hk e => by have := HOC.out.own k hk; omega)
            have hs9 := HS.out.chg HF9.out (fun k hk e => by have := (HS.out.lt k hk).1; omega)
            have hszf := HF9.out.size
            have hszv := HG9.out.size
            have hst9 : PSt g V0.drew.heap.size V0.drew x (.slice DA x.doms.length Dc) hv sv (fun k => ok k ∨ (w.heap.size ≤ k ∧ k < V0.drew.heap.size)) := (HST.out.chg HG9.out (fun k hk => by omega)).fill hszv hgw
            have HKX := Lib.hid (show kSft.K V0.drew (fun k => ok k ∨ (w.heap.size ≤ k ∧ k < V0.drew.heap.size)) ⟨scope, rows, costs, t3.n⟩ [.slice SA9 scope.length Sc9, .slice RA rows.length Rc, .slice CA costs.length Cc, .int .i64 t3.n] from
              sft_K ((hs9.done (B := w.heap.size) (by omega) (Nat.le_refl _)).mono fun _ h => Or.inr h) ((ho9.done (B := w.heap.size) (by omega) (by omega) (fun k hk => by have := HOK3.out k hk; omega)).mono fun _ h => Or.inr h) ((hoc9.done (B := w.heap.size) (by omega) (by omega) (fun _ h => h.elim)).mono fun _ h => Or.inr h))
            obtain ⟨HA9, Hc9, hHv, _, _, _⟩ := hst9.S.sl (by omega)
            subst hHv
            have HS9 := Lib.hid hst9
            obtain ⟨A9, n9, c9, hb9, _⟩ := HP9.out
            have x1 := cell_at hb9 (i := 3) rfl
            have x2 := cell_at hc10 (i := 0) rfl
            have x3 := cell_at hc10 (i := 1) rfl
            have x4 := cell_at hc10 (i := 2) rfl
            have x5 := cell_at hc10 (i := 3) rfl
            have HC10 := Lib.hid hc10
            clear hb9 hc10 hst9 HST HF9 HG HC HO HOC HS ho9 hoc9 hs9 hisc
            obtain ⟨iC, hiC, hC0, hC1, hC2⟩ := info_parts (show (Tryz.prog.info? 37).map (fun i => (i.zero, i.size, i.bytes)) = some (some (.agg #[.slice none 0 0, .slice none 0 0, .slice none 0 0, .int .i64 0]), 4, 80) by kernel_rfl)
            go_wp2_with fail
            refine wp_region_lex (fun w' => w'.cell? ⟨g, 3, none⟩ = some (.slice HA9 x.soft.length Hc9) ∧ w'.cell? ⟨gs, 0, none⟩ = some (.slice SA9 scope.length Sc9) ∧ w'.cell? ⟨gs, 1, none⟩ = some (.slice RA rows.length Rc) ∧ w'.cell? ⟨gs, 2, none⟩ = some (.slice CA costs.length Cc) ∧ w'.cell? ⟨gs, 3, none⟩ = some (.int .i64 t3.n)) [true, true, true, true, true, true, true, false, false, false, false, false, false] (by kernel_rfl) (by kernel_rfl) (fun c a d v w h => by cases d <;> exact h) ?_
            change wpLex _ _ _ _ _ _ _ _ _ (World.drew V0)
            generalize World.drew V0 = V at *
            repeat (first | (refine lex_take ⟨x1, x2, x3, x4, x5⟩ rfl (fun w' hw' => by (obtain ⟨y1, y2, y3, y4, y5⟩ := hw'; (try go_simp); try rfl)) (fun K hK => ?_); go_simp; refine hK _ _ ?_; clear hK K) | (refine lex_take_on _ _ _ _ ⟨x1, x2, x3, x4, x5⟩ rfl rfl rfl rfl (fun w' hw' => by (obtain ⟨y1, y2, y3, y4, y5⟩ := hw'; (try go_simp); try rfl)) (fun K hK => ?_); go_simp; refine hK _ _ ?_; clear hK K) | (refine lex_take_off _ _ _ _ _ ⟨x1, x2, x3, x4, x5⟩ rfl rfl rfl rfl rfl (fun K hK => ?_); go_simp; refine hK _ _ ?_; clear hK K))
            refine lex_step rfl (fun K hK => ?_)
            go_wp2_with fail
            have z1 := cell_kept (below_alloc1 V (.cells #[.slice SA9 scope.length Sc9, .slice RA rows.length Rc, .slice CA costs.length Cc, .int .i64 t3.n] 37)) x1
            have z2 := cell_kept (below_alloc1 V (.cells #[.slice SA9 scope.length Sc9, .slice RA rows.length Rc, .slice CA costs.length Cc, .int .i64 t3.n] 37)) x2
            have z3 := cell_kept (below_alloc1 V (.cells #[.slice SA9 scope.length Sc9, .slice RA rows.length Rc, .slice CA costs.length Cc, .int .i64 t3.n] 37)) x3
            have z4 := cell_kept (below_alloc1 V (.cells #[.slice SA9 scope.length Sc9, .slice RA rows.length Rc, .slice CA costs.length Cc, .int .i64 t3.n] 37)) x4
            have z5 := cell_kept (below_alloc1 V (.cells #[.slice SA9 scope.length Sc9, .slice RA rows.length Rc, .slice CA costs.length Cc, .int .i64 t3.n] 37)) x5
            refine hK _ _ ⟨z1, z2, z3, z4, z5⟩ ?_
            clear hK K z1 z2 z3 z4 z5
            have HS11 := Lib.hid (HS9.out.chg (Chg.alloc0 V (.cells #[.slice SA9 scope.length Sc9, .slice RA rows.length Rc, .slice CA costs.length Cc, .int .i64 t3.n] 37) (fun _ => False)) (fun _ h => h.elim))
            have HK11 := Lib.hid (kSft.chg HKX.out (Chg.alloc0 V (.cells #[.slice SA9 scope.length Sc9, .slice RA rows.length Rc, .slice CA costs.length Cc, .int .i64 t3.n] 37) (fun _ => False)) (fun _ _ h => h))
            obtain ⟨css, hcs1, hcs2⟩ := HS11.out.S.open_
            have HCS1 := Lib.hid hcs1
            have HCS2 := Lib.hid hcs2
            have HHO := Lib.hid (fun k hk => HS9.out.S.own k hk)
            clear hcs1 hcs2
            refine lex_step rfl (fun K hK => ?_)
            refine wp_append_lies _ _ _ 28 rfl (g + 1) 37 iC _ 4 80 Tryz.underlying28 hiC hC0 hC1 hC2 rfl (by decide) (.slice HA9 x.soft.length Hc9) x.soft.length css.flatten rfl HCS2.out ⟨_, 0, none⟩ 1 1 [.slice SA9 scope.length Sc9, .slice RA rows.length Rc, .slice CA costs.length Cc, .int .i64 t3.n] rfl rfl (World.news_of_block (cs := #[.slice SA9 scope.length Sc9, .slice RA rows.length Rc, .slice CA costs.length Cc, .int .i64 t3.n]) (t := 37) (fr := (0, 0)) (heap_alloc_new V _)) (by simp [Value.oneCell']) (by decide) (by simp only [maxLen]; omega) (by omega) (by simp; omega) (V.heap.size + 1) (by simp) ?_
            intro kb cap V3 hown hgrow hat hlt
            have hF3 : Chg (fun k => (Value.slice HA9 x.soft.length Hc9).ownBlock = some k) V V3 := (Chg.alloc0 V _ _).trans (chg_of_grown hgrow) (fun _ _ h => h)
            have hs12 := HS11.out.addS (by simp) HCS1.out HK11.out hgrow hown (hat_of hat (by simp))
            have hp12 := HP9.out.chg hF3 (fun k hk e => by have := (HHO.out k e).1; omega)
            have hc12 : SftAt gs V3 _ _ _ _ := hF3.heap HC10.out (fun e => (HHO.out _ e).2.2 (Or.inr ⟨by omega, lt_of_block HC10.out⟩))
            obtain ⟨A12, n12, c12, hb12, hsl12⟩ := hp12
            have y1 := cell_at hb12 (i := 3) rfl
            have yf := Lib.frozen_of_heap hb12 3
            have y2 := cell_at hc12 (i := 0) rfl
            have y3 := cell_at hc12 (i := 1) rfl
            have y4 := cell_at hc12 (i := 2) rfl
            have y5 := cell_at hc12 (i := 3) rfl
            have HS12 := Lib.hid hs12
            have HP12 := Lib.hid (show PB g V3 (t5 :: r5) _ _ _ from ⟨A12, n12, c12, hb12, hsl12⟩)
            have HG12 := Lib.hid ((HG9.out.mono (fun j _ h => (by omega : g ≤ j))).trans hF3 (fun j hj e => by have := (HHO.out j e).1; omega))
            clear hown hgrow hat hF3 hs12 hc12 hb12 hsl12
            refine hK _ _ ⟨y1, y2, y3, y4, y5⟩ ?_
            clear hK K
            refine lex_list _ _ _ _ _ rfl (by kernel_rfl) ?_
            go_wp2
            go_end0
            refine ⟨?_, ?_⟩
            · rw [HR.out]
              exact ⟨rfl, _, hv, _, _, HP12.out.setS _, (HS12.out.chg (chg_setCell V3 g 3 _) (fun k hk => by omega)).later (by rw [Go.Deep.nblk_setCell]; exact Nat.le_refl _), HT.out⟩
            · exact HFB.out _ (HG12.out.trans (chg_setCell V3 g 3 _) (fun j _ e => by omega))
end Go.Proofs.YtgpgmmkkmoecmaaGreatDoor
