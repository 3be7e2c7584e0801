/- inst.parser: rows. -/
import Derived.Test.YtoahaigfjfeopaaGreatDoorWy
import Derived.Test.YtoahaigfjfeopaaGreatDoorBd
namespace Go.Proofs.YtoahaigfjfeopaaGreatDoor
open Go.RowKit
attribute [local irreducible] wpStill wpLex Calls

theorem valsQ_len (doms : List (List Int)) : ∀ (scope : List Int) (ts : List Tok) (t : List Int) (r : List Tok), valsQ doms scope ts = .ok (t, r) → r.length ≤ ts.length
  | [], ts, t, r, h => by simp [valsQ] at h; rw [h.2]; exact Nat.le_refl _
  | v :: ss, ts, t, r, h => by
    cases ts with
    | nil => simp [valsQ, numberQ] at h
    | cons t0 r0 =>
      cases hn : numberQ 1000000 (t0 :: r0) with
      | error e => rw [valsQ_num hn] at h; cases h
      | ok p =>
        obtain ⟨t1, r1⟩ := p
        have hr : r1 = r0 := by
          simp only [numberQ] at hn
          split at hn
          · split at hn
            · injection hn with hn; injection hn with _ hn; exact hn.symm
            · cases hn
          · cases hn
        by_cases hm : t1.n ∈ nth [] doms v.toNat
        · rw [valsQ_go hn hm] at h
          cases hv : valsQ doms ss r1 with
          | error e => rw [hv] at h; cases h
          | ok q =>
            rw [hv] at h
            obtain ⟨ms, r2⟩ := q
            simp only [preV] at h
            injection h with h
            injection h with _ h
            have := valsQ_len doms ss r1 ms r2 hv
            subst hr
            subst h
            simp; omega
        · rw [valsQ_bad hn hm] at h; cases h
theorem rowQ_len {doms : List (List Int)} {scope : List Int} {ahead rows : List (List Int)} {ts r : List Tok} (h : rowQ doms scope ahead ts = .ok (rows, r)) : r.length ≤ ts.length ∧ rows.length = ahead.length + 1 := by
  rw [rowQ] at h
  cases hv : valsQ doms scope ts with
  | error e => rw [hv] at h; cases h
  | ok q =>
    rw [hv] at h
    obtain ⟨t, r1⟩ := q
    simp only at h
    split at h
    · injection h with h
      injection h with h1 h2
      subst h1 h2
      exact ⟨valsQ_len doms scope ts t r1 hv, by simp⟩
    · cases h
theorem rowsQ_err {doms : List (List Int)} {scope : List Int} {n : Nat} {ahead : List (List Int)} {ts : List Tok} {e : Int × Int} (h : rowQ doms scope ahead ts = .error e) : rowsQ doms scope (n + 1) ahead ts = .error e := by rw [rowsQ, h]
theorem rowsQ_end {doms : List (List Int)} {scope : List Int} {n : Nat} {ahead rows : List (List Int)} {ts r : List Tok} {t : Tok} (h : rowQ doms scope ahead ts = .ok (rows, t :: r)) (hi : isP t [44] = false) : rowsQ doms scope (n + 1) ahead ts = .ok (rows, t :: r) := by
  rw [rowsQ, h]; simp [isQ, hi]
theorem rowsQ_go {doms : List (List Int)} {scope : List Int} {n : Nat} {ahead rows : List (List Int)} {ts r : List Tok} {t : Tok} (h : rowQ doms scope ahead ts = .ok (rows, t :: r)) (hi : isP t [44] = true) : rowsQ doms scope (n + 1) ahead ts = rowsQ doms scope n rows r := by
  rw [rowsQ, h]; simp [isQ, hi]

/-- A constraint in a block of its own. -/
def ConAt (gc : Nat) (w : World) (kind : Int) (vs vr va : Value) : Prop := w.heap[gc]? = some (.cells #[.int .i64 kind, vs, vr, va] 43 (0, 0))
def TabOut (g gc : Nat) (w w' : World) (kind : Int) (vs va dv hv sv : Value) (e : Ending) (rows : List (List Int)) (r : List Tok) : Prop :=
  ∃ rv ok', e = .returned (.tuple #[]) ∧ ConAt gc w' kind vs rv va ∧ OwnD kRow 41 w.heap.size ok' rv rows w' ∧ (∀ k, ok' k → w.heap.size ≤ k ∧ k < w'.heap.size) ∧ PB g w' r dv hv sv ∧ Toks r ∧ rows.length ≤ 1000000
def TabRel (g gc : Nat) (w w0 : World) (doms : List (List Int)) (scope : List Int) (kind : Int) (vs va dv hv sv : Value) (res : PR (List (List Int))) (k : Nat) (wr : World) : Prop :=
  ∃ ts' ahead rv ok' n, k = ts'.length ∧ res = rowsQ doms scope (n + 1) ahead ts' ∧ ts'.length ≤ n ∧ ahead.length + ts'.length ≤ 200000 ∧ ConAt gc wr kind vs rv va ∧ OwnD kRow 41 w.heap.size ok' rv ahead wr ∧ (∀ k, ok' k → w.heap.size ≤ k ∧ k < wr.heap.size) ∧ PB g wr ts' dv hv sv ∧ Toks ts' ∧
    Chg (fun k => k = g ∨ k = gc) w wr ∧ w0.heap.size ≤ wr.heap.size

set_option maxRecDepth 100000 in
set_option maxHeartbeats 4000000 in
theorem rows_p (g gc : Nat) (w : World) (ts : List Tok) (doms : List (List Int)) (DA : Option Addr) (Dc : Nat) (hv sv va : Value) (okD okS : Nat → Prop) (scope : List Int) (SA : Option Addr) (Sc : Nat) (kind : Int)
    (h : PB g w ts (.slice DA doms.length Dc) hv sv) (hT : Toks ts) (htl : ts.length ≤ 150000) (hD : Sl kRow w okD (.slice DA doms.length Dc) doms) (hDg : ∀ k, okD k → g < k ∧ k ≠ gc)
    (hS : Sl (Kd.int .i64) w okS (.slice SA scope.length Sc) scope) (hSg : ∀ k, okS k → g < k ∧ k ≠ gc) (hs6 : scope.length ≤ 6) (hsr : ∀ v ∈ scope, 0 ≤ v ∧ v < doms.length) (hgc : g < gc) (hc : ConAt gc w kind (.slice SA scope.length Sc) (.slice none 0 0) va) :
    Calls Tryz.prog 106 #[.pointer (some ⟨g, 0, none⟩), .pointer (some ⟨gc, 0, none⟩)] w fun e w' => Out (tableQ doms scope ts) (TabOut g gc w w' kind (.slice SA scope.length Sc) va (.slice DA doms.length Dc) hv sv e) e ∧ Chg (fun k => k = g ∨ k = gc) w w' := by
  have hgw := h.lt
  obtain ⟨t, r, rfl⟩ := hT.cons
  have hsg := Lib.hid (sign_any g w t r _ hv sv [58] h hT)
  by_cases hi : isP t [58] = true
  · have hT2 := hT.tail (isP_kind hi)
    obtain ⟨t2, r2, rfl⟩ := hT2.cons
    simp only [hi, if_true] at hsg
    have hq : tableQ doms scope (t :: t2 :: r2) = if t2.kind = 3 ∧ t2.text = [59] then .ok ([], t2 :: r2) else rowsQ doms scope ((t2 :: r2).length + 1) [] (t2 :: r2) := by simp [tableQ, signQ, hi, nth]
    have HQ := Lib.hid hq
    have HT := Lib.hid hT2
    have HD := Lib.hid hD
    have HS := Lib.hid hS
    have HC := Lib.hid hc
    have hgcw := lt_of_block hc
    clear h hT hT2 hq hD hS hc hi
    go_enter Tryz.func106, Tryz.ntmps106
    go_wp2_with (go_at_call 75; refine hsg.out.mono ?_)
    rintro e w1 ⟨⟨rfl, hp⟩, hg⟩
    have HP := Lib.hid hp
    have HG := Lib.hid (chg_g hg (fun k => k = g ∨ k = gc) (Or.inl rfl))
    have hsz1 := hg.size
    have hgr := Lib.hid hg
    obtain ⟨A, n, c, hgb, hs⟩ := hp
    obtain ⟨b, o, rfl, hb, hn, hnc, hmc, c0, c1, c2, c3⟩ := tok_head hs
    have g0 := cell_at hgb (i := 0) rfl
    have hn0 : 0 < n := by omega
    have hgw1 : g < w1.heap.size := by omega
    clear hsg hg hgb hs hn
    have HX : Hid (decide (t2.text = [59]) = ((ByteArray.mk t2.text.toArray).toList == (ByteArray.mk [59].toArray).toList)) := Lib.hid (bytes_eq _ _).symm
    generalize (ByteArray.mk t2.text.toArray) = tb at c1 HX
    have hlit : (ByteArray.mk [59].toArray).toList = [59] := by rw [ByteArray.toList_eq]
    rw [hlit] at HX
    clear hlit
    have hgk : Chg (fun k => k = g ∨ k = gc) w (w1.alloc (.cells #[.int .i64 t2.kind, .string tb, .int .i64 t2.n, .int .i64 t2.at_] 83)) := HG.out.alloc _
    have HG2 := Lib.hid hgk
    have HP2 := Lib.hid (HP.out.alloc (.cells #[.int .i64 t2.kind, .string tb, .int .i64 t2.n, .int .i64 t2.at_] 83))
    have HC2 := Lib.hid (show ConAt gc (w1.alloc (.cells #[.int .i64 t2.kind, .string tb, .int .i64 t2.n, .int .i64 t2.at_] 83)) kind (.slice SA scope.length Sc) (.slice none 0 0) va from block_kept (below_alloc1 _ _) ((chg_of_grown hgr.out).heap HC.out (fun e => by injection e with e; omega)))
    clear hgk hgr
    by_cases hend : t2.kind = 3 ∧ t2.text = [59]
    · obtain ⟨hk3, ht⟩ := hend
      have hx : (tb.toList == [59]) = true := by rw [← HX.out]; simpa using ht
      have HR : Hid (tableQ doms scope (t :: t2 :: r2) = .ok ([], t2 :: r2)) := Lib.hid (by rw [HQ.out, if_pos ⟨hk3, ht⟩])
      have HP3 : Hid (PB g _ _ _ hv sv) := HP2
      have hk3' : ((t2.kind : Int) == 3) = true := by simpa using hk3
      clear ht HQ hk3
      go_wp2
      refine bodyPost_ret (results_none rfl _ _ _) rfl ?_
      refine ⟨?_, HG2.out⟩
      rw [HR.out]
      exact ⟨_, (fun _ => False), rfl, HC2.out, OwnD.nil _ _ _ _ _, fun _ h => h.elim, HP3.out, HT.out, by simp⟩
    · have HR : Hid (tableQ doms scope (t :: t2 :: r2) = rowsQ doms scope ((t2 :: r2).length + 1) [] (t2 :: r2)) := Lib.hid (by rw [HQ.out, if_neg hend])
      by_cases hk3 : t2.kind = 3
      · have hx : (tb.toList == [59]) = false := by rw [← HX.out]; simpa [hk3] using hend
        have hk3' : ((t2.kind : Int) == 3) = true := by simpa using hk3
        clear HQ hk3 hend
        go_wp2_with fail
        go_loopg [21] (t2 :: r2).length (fun k _ wr => TabRel g gc w w doms scope kind (.slice SA scope.length Sc) va (.slice DA doms.length Dc) hv sv (tableQ doms scope (t :: t2 :: r2)) k wr)
        case atStart => exact ⟨t2 :: r2, [], _, (fun _ => False), (t2 :: r2).length, rfl, HR.out, Nat.le_refl _, by simp at htl ⊢; omega, HC2.out, OwnD.nil _ _ _ _ _, fun _ h => h.elim, HP2.out, HT.out, HG2.out, HG2.out.size⟩
        case round =>
          clear HR HP2 HC2 HG2 HT
          obtain ⟨ts3, ahead, rv, ok3, fu, hk, hq, hfu, hal, hc, ho, hok, hp, hT3, hch, hsz⟩ := hrel
          obtain ⟨RA, Rc, rfl, _, _, _⟩ := ho.sl (by omega)
          have hgc3 := cell_at hc (i := 1) rfl
          have hgc4 := cell_at hc (i := 2) rfl
          have hrc := Lib.hid (row_p g w.heap.size wr.drew ts3 doms DA Dc hv sv okD okS ok3 scope SA Sc ahead _ hp.drew hT3
            (HD.out.chg (by decide) hch.drew (fun k hk e => by have := hDg k hk; omega)) (fun k hk => (hDg k hk).1) (HS.out.chg (by decide) hch.drew (fun k hk e => by have := hSg k hk; omega)) (fun k hk => (hSg k hk).1) hs6 hsr
            (ho.chg (chg_of_below (Below.drew (Below.refl _ _)) (fun _ => False)) (fun _ _ h => h.elim) (fun _ _ h => h.elim)) hgw hsz (fun k hk => by have := hok k hk; exact ⟨by omega, this.2⟩) (by omega))
          have HK := Lib.hid hk
          have HQ := Lib.hid hq
          have HO := Lib.hid ho
          have HC3 := Lib.hid (show ConAt gc wr.drew kind (.slice SA scope.length Sc) (.slice RA ahead.length Rc) va from hc)
          have HG3 := Lib.hid hch.drew
          have HOK := Lib.hid hok
          have hszd : w.heap.size ≤ wr.drew.heap.size := hsz
          clear hk hq hc ho hp hT3 hch hok
          have hgc3' : (World.drew wr).cell? ⟨gc, 1, none⟩ = _ := hgc3
          have hgc4' : (World.drew wr).cell? ⟨gc, 2, none⟩ = _ := hgc4
          have hfr : ∀ w', Chg (fun k => k = g ∨ (Value.slice RA ahead.length Rc).ownBlock = some k) (World.drew wr) w' → Chg (fun k => k = g ∨ k = gc) w w' := fun w' h => HG3.out.trans h (fun j hj hs => by
            rcases hs with hs | hs
            · exact Or.inl hs
            · have := (HO.out.own j hs).1; omega)
          have HF := Lib.hid hfr
          have hgn : ∀ k, (Value.slice RA ahead.length Rc).ownBlock = some k → k ≠ gc := fun k hk => by have := (HO.out.own k hk).1; omega
          have HGN := Lib.hid hgn
          have hwrd : wr.heap.size ≤ (World.drew wr).heap.size := Nat.le_refl _
          clear hfr hgn
          rcases hrq : rowQ doms scope ahead ts3 with ⟨p, x⟩ | ⟨rows, r3⟩
          · have HR : Hid (tableQ doms scope (t :: t2 :: r2) = .error (p, x)) := Lib.hid (by rw [HQ.out]; exact rowsQ_err hrq)
            rw [hrq] at hrc
            clear hrq HQ
            go_wp2_with fail
            refine wp_region_lex (fun w' => w'.cell? ⟨gc, 1, none⟩ = some (.slice SA scope.length Sc) ∧ w'.cell? ⟨gc, 2, none⟩ = some (.slice RA ahead.length Rc)) [true, true, true, true, true, true, true, true, true, true, false, false, false, false] (by kernel_rfl) (by kernel_rfl) (fun c a d v w h => by cases d <;> exact h) ?_
            change wpLex _ _ _ _ _ _ _ _ _ (World.drew wr)
            generalize World.drew wr = W at *
            repeat (first | (refine lex_take ⟨hgc3', hgc4'⟩ rfl (fun w' hw' => by (obtain ⟨x1, x2⟩ := hw'; (try go_simp); try rfl)) (fun K hK => ?_); go_simp; refine hK _ _ ?_; clear hK K) | (refine lex_take_on _ _ _ _ ⟨hgc3', hgc4'⟩ rfl rfl rfl rfl (fun w' hw' => by (obtain ⟨x1, x2⟩ := hw'; (try go_simp); try rfl)) (fun K hK => ?_); go_simp; refine hK _ _ ?_; clear hK K) | (refine lex_take_off _ _ _ _ _ ⟨hgc3', hgc4'⟩ rfl rfl rfl rfl rfl (fun K hK => ?_); go_simp; refine hK _ _ ?_; clear hK K))
            refine lex_step rfl (fun K hK => ?_)
            go_wp2_with (go_at_call 104; refine hrc.out.mono ?_; rintro e w' ⟨he, hg⟩; obtain rfl : e = wrongs p x := he)
            refine ⟨rfl, ?_⟩
            rw [HR.out]
            exact ⟨rfl, HF.out _ hg⟩
          · have hln0 := rowQ_len hrq
            have hln := hln0.1
            have hrl : rows.length ≤ ahead.length + 1 := by omega
            clear hln0
            rw [hrq] at hrc
            go_wp2_with fail
            refine wp_region_lex (fun w' => w'.cell? ⟨gc, 1, none⟩ = some (.slice SA scope.length Sc) ∧ w'.cell? ⟨gc, 2, none⟩ = some (.slice RA ahead.length Rc)) [true, true, true, true, true, true, true, true, true, true, false, false, false, false] (by kernel_rfl) (by kernel_rfl) (fun c a d v w h => by cases d <;> exact h) ?_
            change wpLex _ _ _ _ _ _ _ _ _ (World.drew wr)
            generalize World.drew wr = W at *
            repeat (first | (refine lex_take ⟨hgc3', hgc4'⟩ rfl (fun w' hw' => by (obtain ⟨x1, x2⟩ := hw'; (try go_simp); try rfl)) (fun K hK => ?_); go_simp; refine hK _ _ ?_; clear hK K) | (refine lex_take_on _ _ _ _ ⟨hgc3', hgc4'⟩ rfl rfl rfl rfl (fun w' hw' => by (obtain ⟨x1, x2⟩ := hw'; (try go_simp); try rfl)) (fun K hK => ?_); go_simp; refine hK _ _ ?_; clear hK K) | (refine lex_take_off _ _ _ _ _ ⟨hgc3', hgc4'⟩ rfl rfl rfl rfl rfl (fun K hK => ?_); go_simp; refine hK _ _ ?_; clear hK K))
            refine lex_step rfl (fun K hK => ?_)
            go_wp2_with (go_at_call 104; refine hrc.out.mono ?_; rintro e w' ⟨⟨v4, ok4, rfl, ho4, hok4, hp4, hT4, hat4⟩, hg⟩)
            obtain ⟨RA4, Rc4, rfl, _, _, _⟩ := ho4.sl (by omega)
            obtain ⟨t5, r5, rfl⟩ := hT4.cons
            have hc4 : ConAt gc w' kind (.slice SA scope.length Sc) (.slice RA ahead.length Rc) va := hg.heap HC3.out (fun h => by
              rcases h with h | h
              · omega
              · exact HGN.out _ h rfl)
            have hx1 := cell_at hc4 (i := 1) rfl
            have hx2 := cell_at hc4 (i := 2) rfl
            have hxf := Lib.frozen_of_heap hc4 2
            have hsz4 := hg.size
            have HG4 := Lib.hid (HF.out _ hg)
            have HO4 := Lib.hid ho4
            have HOK4 := Lib.hid hok4
            have HP4 := Lib.hid hp4
            have HT4 := Lib.hid hT4
            have HC4 := Lib.hid hc4
            have HRQ := Lib.hid hrq
            clear hg ho4 hok4 hp4 hT4 hc4 hrc hrq HC3 hat4
            refine hK _ _ ⟨hx1, hx2⟩ ?_
            clear hK K
            refine lex_list _ _ _ _ _ rfl (by kernel_rfl) ?_
            have HC5 : Hid (ConAt gc (w'.setCell ⟨gc, 2, none⟩ (.slice RA4 rows.length Rc4)) kind (.slice SA scope.length Sc) (.slice RA4 rows.length Rc4) va) := Lib.hid (by have := HC4.out; unfold ConAt at this ⊢; simp [World.setCell, Array.getElem?_modify, this])
            have HG5 := Lib.hid (HG4.out.trans (chg_setCell w' gc 2 (.slice RA4 rows.length Rc4)) (fun j _ h => Or.inr h))
            have HP5 := Lib.hid (HP4.out.chg (chg_setCell w' gc 2 (.slice RA4 rows.length Rc4)) (fun k hk e => by omega))
            have HO5 := Lib.hid (HO4.out.chg (chg_setCell w' gc 2 (.slice RA4 rows.length Rc4)) (fun k hk e => by
              rcases HOK4.out k hk with h | h
              · have := HOK.out k h; omega
              · omega) (fun k hk e => by have := (HO4.out.own k hk).1; omega))
            have hisc := Lib.hid (is_any g _ t5 r5 _ hv sv [44] HP5.out)
            have hgl := hxf
            have HL4 : Hid (∀ w'', Chg (fun k => k = g) (w'.setCell ⟨gc, 2, none⟩ (.slice RA4 rows.length Rc4)) w'' → ConAt gc w'' kind (.slice SA scope.length Sc) (.slice RA4 rows.length Rc4) va ∧ OwnD kRow 41 w.heap.size ok4 (.slice RA4 rows.length Rc4) rows w'' ∧ (∀ k, ok4 k → w.heap.size ≤ k ∧ k < w''.heap.size) ∧ Chg (fun k => k = g ∨ k = gc) w w'' ∧ w.heap.size ≤ w''.heap.size) := Lib.hid (fun w'' h => by
              have hs := h.size
              rw [Go.Deep.nblk_setCell] at hs
              refine ⟨h.heap HC5.out (fun e => by omega), HO5.out.chg h (fun k hk e => ?_) (fun k hk e => by have := (HO4.out.own k hk).1; omega), fun k hk => ?_, HG5.out.trans h (fun j _ e => Or.inl e), by omega⟩
              · rcases HOK4.out k hk with h | h
                · have := HOK.out k h; omega
                · omega
              · rcases HOK4.out k hk with h | h
                · have := HOK.out k h; omega
                · omega)
            by_cases hi5 : isP t5 [44] = true
            · have hT5 := HT4.out.tail (isP_kind hi5)
              simp only [hi5, if_true] at hisc
              have HR : Hid (tableQ doms scope (t :: t2 :: r2) = rowsQ doms scope fu rows r5) := Lib.hid (by rw [HQ.out]; exact rowsQ_go HRQ.out hi5)
              have hln2 := hln
              simp only [List.length_cons] at hln2
              obtain ⟨f2, hf2⟩ : ∃ f2, fu = f2 + 1 := ⟨fu - 1, by omega⟩
              rw [hf2] at HR
              have HK2 := Lib.hid (show r5.length < gk by have := HK.out; omega)
              clear HQ HRQ hi5
              go_wp2_with (go_at_call 103; refine hisc.out.mono ?_; rintro e w6 ⟨rfl, hp6, hg6⟩; (have HP6 := Lib.hid hp6); (have HG6 := Lib.hid hg6); clear hp6 hg6)
              obtain ⟨q1, q2, q3, q4, q5⟩ := HL4.out _ (chg_g HG6.out (fun k => k = g) rfl)
              go_roundg r5.length
              case rel => exact ⟨r5, rows, _, ok4, f2, rfl, HR.out, by omega, by omega, q1, q2, q3, HP6.out, hT5, q4, q5⟩
              case measure => exact HK2.out
            · have hi5 := Bool.eq_false_iff.2 hi5
              simp only [hi5, if_false, Bool.false_eq_true] at hisc
              have HR : Hid (tableQ doms scope (t :: t2 :: r2) = .ok (rows, t5 :: r5)) := Lib.hid (by rw [HQ.out]; exact rowsQ_end HRQ.out hi5)
              clear HQ HRQ hi5
              go_wp2_with (go_at_call 103; refine hisc.out.mono ?_; rintro e w6 ⟨rfl, hp6, hg6⟩; (have HP6 := Lib.hid hp6); (have HG6 := Lib.hid hg6); clear hp6 hg6)
              obtain ⟨q1, q2, q3, q4, q5⟩ := HL4.out _ (chg_g HG6.out (fun k => k = g) rfl)
              refine bodyPost_ret (results_none rfl _ _ _) rfl ?_
              refine ⟨?_, q4⟩
              rw [HR.out]
              exact ⟨_, ok4, rfl, q1, q2, q3, HP6.out, HT4.out, by omega⟩
      · have hk3' : ((t2.kind : Int) == 3) = false := by simpa using hk3
        clear HQ hk3 hend
        go_wp2_with fail
        go_loopg [21] (t2 :: r2).length (fun k _ wr => TabRel g gc w w doms scope kind (.slice SA scope.length Sc) va (.slice DA doms.length Dc) hv sv (tableQ doms scope (t :: t2 :: r2)) k wr)
        case atStart => exact ⟨t2 :: r2, [], _, (fun _ => False), (t2 :: r2).length, rfl, HR.out, Nat.le_refl _, by simp at htl ⊢; omega, HC2.out, OwnD.nil _ _ _ _ _, fun _ h => h.elim, HP2.out, HT.out, HG2.out, HG2.out.size⟩
        case round =>
          clear HR HP2 HC2 HG2 HT
          obtain ⟨ts3, ahead, rv, ok3, fu, hk, hq, hfu, hal, hc, ho, hok, hp, hT3, hch, hsz⟩ := hrel
          obtain ⟨RA, Rc, rfl, _, _, _⟩ := ho.sl (by omega)
          have hgc3 := cell_at hc (i := 1) rfl
          have hgc4 := cell_at hc (i := 2) rfl
          have hrc := Lib.hid (row_p g w.heap.size wr.drew ts3 doms DA Dc hv sv okD okS ok3 scope SA Sc ahead _ hp.drew hT3
            (HD.out.chg (by decide) hch.drew (fun k hk e => by have := hDg k hk; omega)) (fun k hk => (hDg k hk).1) (HS.out.chg (by decide) hch.drew (fun k hk e => by have := hSg k hk; omega)) (fun k hk => (hSg k hk).1) hs6 hsr
            (ho.chg (chg_of_below (Below.drew (Below.refl _ _)) (fun _ => False)) (fun _ _ h => h.elim) (fun _ _ h => h.elim)) hgw hsz (fun k hk => by have := hok k hk; exact ⟨by omega, this.2⟩) (by omega))
          have HK := Lib.hid hk
          have HQ := Lib.hid hq
          have HO := Lib.hid ho
          have HC3 := Lib.hid (show ConAt gc wr.drew kind (.slice SA scope.length Sc) (.slice RA ahead.length Rc) va from hc)
          have HG3 := Lib.hid hch.drew
          have HOK := Lib.hid hok
          have hszd : w.heap.size ≤ wr.drew.heap.size := hsz
          clear hk hq hc ho hp hT3 hch hok
          have hgc3' : (World.drew wr).cell? ⟨gc, 1, none⟩ = _ := hgc3
          have hgc4' : (World.drew wr).cell? ⟨gc, 2, none⟩ = _ := hgc4
          have hfr : ∀ w', Chg (fun k => k = g ∨ (Value.slice RA ahead.length Rc).ownBlock = some k) (World.drew wr) w' → Chg (fun k => k = g ∨ k = gc) w w' := fun w' h => HG3.out.trans h (fun j hj hs => by
            rcases hs with hs | hs
            · exact Or.inl hs
            · have := (HO.out.own j hs).1; omega)
          have HF := Lib.hid hfr
          have hgn : ∀ k, (Value.slice RA ahead.length Rc).ownBlock = some k → k ≠ gc := fun k hk => by have := (HO.out.own k hk).1; omega
          have HGN := Lib.hid hgn
          have hwrd : wr.heap.size ≤ (World.drew wr).heap.size := Nat.le_refl _
          clear hfr hgn
          rcases hrq : rowQ doms scope ahead ts3 with ⟨p, x⟩ | ⟨rows, r3⟩
          · have HR : Hid (tableQ doms scope (t :: t2 :: r2) = .error (p, x)) := Lib.hid (by rw [HQ.out]; exact rowsQ_err hrq)
            rw [hrq] at hrc
            clear hrq HQ
            go_wp2_with fail
            refine wp_region_lex (fun w' => w'.cell? ⟨gc, 1, none⟩ = some (.slice SA scope.length Sc) ∧ w'.cell? ⟨gc, 2, none⟩ = some (.slice RA ahead.length Rc)) [true, true, true, true, true, true, true, true, true, true, false, false, false, false] (by kernel_rfl) (by kernel_rfl) (fun c a d v w h => by cases d <;> exact h) ?_
            change wpLex _ _ _ _ _ _ _ _ _ (World.drew wr)
            generalize World.drew wr = W at *
            repeat (first | (refine lex_take ⟨hgc3', hgc4'⟩ rfl (fun w' hw' => by (obtain ⟨x1, x2⟩ := hw'; (try go_simp); try rfl)) (fun K hK => ?_); go_simp; refine hK _ _ ?_; clear hK K) | (refine lex_take_on _ _ _ _ ⟨hgc3', hgc4'⟩ rfl rfl rfl rfl (fun w' hw' => by (obtain ⟨x1, x2⟩ := hw'; (try go_simp); try rfl)) (fun K hK => ?_); go_simp; refine hK _ _ ?_; clear hK K) | (refine lex_take_off _ _ _ _ _ ⟨hgc3', hgc4'⟩ rfl rfl rfl rfl rfl (fun K hK => ?_); go_simp; refine hK _ _ ?_; clear hK K))
            refine lex_step rfl (fun K hK => ?_)
            go_wp2_with (go_at_call 104; refine hrc.out.mono ?_; rintro e w' ⟨he, hg⟩; obtain rfl : e = wrongs p x := he)
            refine ⟨rfl, ?_⟩
            rw [HR.out]
            exact ⟨rfl, HF.out _ hg⟩
          · have hln0 := rowQ_len hrq
            have hln := hln0.1
            have hrl : rows.length ≤ ahead.length + 1 := by omega
            clear hln0
            rw [hrq] at hrc
            go_wp2_with fail
            refine wp_region_lex (fun w' => w'.cell? ⟨gc, 1, none⟩ = some (.slice SA scope.length Sc) ∧ w'.cell? ⟨gc, 2, none⟩ = some (.slice RA ahead.length Rc)) [true, true, true, true, true, true, true, true, true, true, false, false, false, false] (by kernel_rfl) (by kernel_rfl) (fun c a d v w h => by cases d <;> exact h) ?_
            change wpLex _ _ _ _ _ _ _ _ _ (World.drew wr)
            generalize World.drew wr = W at *
            repeat (first | (refine lex_take ⟨hgc3', hgc4'⟩ rfl (fun w' hw' => by (obtain ⟨x1, x2⟩ := hw'; (try go_simp); try rfl)) (fun K hK => ?_); go_simp; refine hK _ _ ?_; clear hK K) | (refine lex_take_on _ _ _ _ ⟨hgc3', hgc4'⟩ rfl rfl rfl rfl (fun w' hw' => by (obtain ⟨x1, x2⟩ := hw'; (try go_simp); try rfl)) (fun K hK => ?_); go_simp; refine hK _ _ ?_; clear hK K) | (refine lex_take_off _ _ _ _ _ ⟨hgc3', hgc4'⟩ rfl rfl rfl rfl rfl (fun K hK => ?_); go_simp; refine hK _ _ ?_; clear hK K))
            refine lex_step rfl (fun K hK => ?_)
            go_wp2_with (go_at_call 104; refine hrc.out.mono ?_; rintro e w' ⟨⟨v4, ok4, rfl, ho4, hok4, hp4, hT4, hat4⟩, hg⟩)
            obtain ⟨RA4, Rc4, rfl, _, _, _⟩ := ho4.sl (by omega)
            obtain ⟨t5, r5, rfl⟩ := hT4.cons
            have hc4 : ConAt gc w' kind (.slice SA scope.length Sc) (.slice RA ahead.length Rc) va := hg.heap HC3.out (fun h => by
              rcases h with h | h
              · omega
              · exact HGN.out _ h rfl)
            have hx1 := cell_at hc4 (i := 1) rfl
            have hx2 := cell_at hc4 (i := 2) rfl
            have hxf := Lib.frozen_of_heap hc4 2
            have hsz4 := hg.size
            have HG4 := Lib.hid (HF.out _ hg)
            have HO4 := Lib.hid ho4
            have HOK4 := Lib.hid hok4
            have HP4 := Lib.hid hp4
            have HT4 := Lib.hid hT4
            have HC4 := Lib.hid hc4
            have HRQ := Lib.hid hrq
            clear hg ho4 hok4 hp4 hT4 hc4 hrc hrq HC3 hat4
            refine hK _ _ ⟨hx1, hx2⟩ ?_
            clear hK K
            refine lex_list _ _ _ _ _ rfl (by kernel_rfl) ?_
            have HC5 : Hid (ConAt gc (w'.setCell ⟨gc, 2, none⟩ (.slice RA4 rows.length Rc4)) kind (.slice SA scope.length Sc) (.slice RA4 rows.length Rc4) va) := Lib.hid (by have := HC4.out; unfold ConAt at this ⊢; simp [World.setCell, Array.getElem?_modify, this])
            have HG5 := Lib.hid (HG4.out.trans (chg_setCell w' gc 2 (.slice RA4 rows.length Rc4)) (fun j _ h => Or.inr h))
            have HP5 := Lib.hid (HP4.out.chg (chg_setCell w' gc 2 (.slice RA4 rows.length Rc4)) (fun k hk e => by omega))
            have HO5 := Lib.hid (HO4.out.chg (chg_setCell w' gc 2 (.slice RA4 rows.length Rc4)) (fun k hk e => by
              rcases HOK4.out k hk with h | h
              · have := HOK.out k h; omega
              · omega) (fun k hk e => by have := (HO4.out.own k hk).1; omega))
            have hisc := Lib.hid (is_any g _ t5 r5 _ hv sv [44] HP5.out)
            have hgl := hxf
            have HL4 : Hid (∀ w'', Chg (fun k => k = g) (w'.setCell ⟨gc, 2, none⟩ (.slice RA4 rows.length Rc4)) w'' → ConAt gc w'' kind (.slice SA scope.length Sc) (.slice RA4 rows.length Rc4) va ∧ OwnD kRow 41 w.heap.size ok4 (.slice RA4 rows.length Rc4) rows w'' ∧ (∀ k, ok4 k → w.heap.size ≤ k ∧ k < w''.heap.size) ∧ Chg (fun k => k = g ∨ k = gc) w w'' ∧ w.heap.size ≤ w''.heap.size) := Lib.hid (fun w'' h => by
              have hs := h.size
              rw [Go.Deep.nblk_setCell] at hs
              refine ⟨h.heap HC5.out (fun e => by omega), HO5.out.chg h (fun k hk e => ?_) (fun k hk e => by have := (HO4.out.own k hk).1; omega), fun k hk => ?_, HG5.out.trans h (fun j _ e => Or.inl e), by omega⟩
              · rcases HOK4.out k hk with h | h
                · have := HOK.out k h; omega
                · omega
              · rcases HOK4.out k hk with h | h
                · have := HOK.out k h; omega
                · omega)
            by_cases hi5 : isP t5 [44] = true
            · have hT5 := HT4.out.tail (isP_kind hi5)
              simp only [hi5, if_true] at hisc
              have HR : Hid (tableQ doms scope (t :: t2 :: r2) = rowsQ doms scope fu rows r5) := Lib.hid (by rw [HQ.out]; exact rowsQ_go HRQ.out hi5)
              have hln2 := hln
              simp only [List.length_cons] at hln2
              obtain ⟨f2, hf2⟩ : ∃ f2, fu = f2 + 1 := ⟨fu - 1, by omega⟩
              rw [hf2] at HR
              have HK2 := Lib.hid (show r5.length < gk by have := HK.out; omega)
              clear HQ HRQ hi5
              go_wp2_with (go_at_call 103; refine hisc.out.mono ?_; rintro e w6 ⟨rfl, hp6, hg6⟩; (have HP6 := Lib.hid hp6); (have HG6 := Lib.hid hg6); clear hp6 hg6)
              obtain ⟨q1, q2, q3, q4, q5⟩ := HL4.out _ (chg_g HG6.out (fun k => k = g) rfl)
              go_roundg r5.length
              case rel => exact ⟨r5, rows, _, ok4, f2, rfl, HR.out, by omega, by omega, q1, q2, q3, HP6.out, hT5, q4, q5⟩
              case measure => exact HK2.out
            · have hi5 := Bool.eq_false_iff.2 hi5
              simp only [hi5, if_false, Bool.false_eq_true] at hisc
              have HR : Hid (tableQ doms scope (t :: t2 :: r2) = .ok (rows, t5 :: r5)) := Lib.hid (by rw [HQ.out]; exact rowsQ_end HRQ.out hi5)
              clear HQ HRQ hi5
              go_wp2_with (go_at_call 103; refine hisc.out.mono ?_; rintro e w6 ⟨rfl, hp6, hg6⟩; (have HP6 := Lib.hid hp6); (have HG6 := Lib.hid hg6); clear hp6 hg6)
              obtain ⟨q1, q2, q3, q4, q5⟩ := HL4.out _ (chg_g HG6.out (fun k => k = g) rfl)
              refine bodyPost_ret (results_none rfl _ _ _) rfl ?_
              refine ⟨?_, q4⟩
              rw [HR.out]
              exact ⟨_, ok4, rfl, q1, q2, q3, HP6.out, HT4.out, by omega⟩
  · have hi := Bool.eq_false_iff.2 hi
    have HR : Hid (tableQ doms scope (t :: r) = .error (t.at_, 3)) := Lib.hid (by simp [tableQ, signQ, hi])
    simp only [hi, if_false, Bool.false_eq_true] at hsg
    clear hi h hT
    go_enter Tryz.func106, Tryz.ntmps106
    go_wp2_with (go_at_call 75; refine hsg.out.mono ?_; rintro e w1 ⟨rfl, hg⟩; refine ⟨rfl, ?_⟩; rw [HR.out]; exact ⟨rfl, chg_g hg _ (Or.inl rfl)⟩)
end Go.Proofs.YtoahaigfjfeopaaGreatDoor
