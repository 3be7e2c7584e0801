/- inst.parser: row. -/
import Derived.Test.YtoahaigfjfeopaaGreatDoorWx
import Derived.Deep.RegionHeld3
import Derived.Deep.DeepCutAuto
import Derived.Deep.DrawnRows
namespace Go.Proofs.YtoahaigfjfeopaaGreatDoor
open Go.RowKit
attribute [local irreducible] wpStill Calls
attribute [local go_sem ↓] Go.wp_at_zero Go.wp_at_succ

/-- What the first statement leaves: the token in a block, and a row of zeros. -/
def RowHead (w : World) (t : Tok) (n : Nat) (s7 s8 : Value) (wx : World) : Prop :=
  ∃ kt km, s7 = .pointer (some ⟨kt, 0, none⟩) ∧ s8 = .slice (some ⟨km, 0, none⟩) n n ∧ wx.heap[kt]? = some (.cells (tokC t).toArray 83 (0, 0)) ∧ wx.heap[km]? = some (.cells (madeCells #[.int .i64 0] n) 3 (0, 0)) ∧
    Below w.heap.size w wx ∧ w.heap.size ≤ kt ∧ w.heap.size ≤ km ∧ kt ≠ km

theorem row_head (w : World) (t : Tok) (n : Nat) {C : Array Value} (hC : (tokC t).toArray = C) :
    RowHead w t n (.pointer (some ⟨w.heap.size + 1, 0, none⟩)) (.slice (some ⟨w.heap.size, 0, none⟩) n n) (((w.alloc (.cells (madeCells #[.int .i64 0] n) 3)).alloc (.cells C 83)).drew) := by
  subst hC
  refine ⟨_, _, rfl, rfl, ?_, ?_, (((Below.refl _ _).alloc (Nat.le_refl _) _).alloc (by simp) _).drew, by omega, Nat.le_refl _, by omega⟩
  · have e : (w.alloc (.cells (madeCells #[.int .i64 0] n) 3)).heap.size = w.heap.size + 1 := by simp
    rw [← e]
    exact heap_alloc_new _ _
  · exact block_kept (below_alloc1 (w.alloc (.cells (madeCells #[.int .i64 0] n) 3)) (.cells (tokC t).toArray 83)) (heap_alloc_new w _)
theorem row_head' (w : World) (t : Tok) (n : Nat) {C : Array Value} (hC : (tokC t).toArray = C) :
    RowHead w t n (.pointer (some ⟨w.heap.size, 0, none⟩)) (.slice (some ⟨w.heap.size + 1, 0, none⟩) n n) (((w.alloc (.cells C 83)).alloc (.cells (madeCells #[.int .i64 0] n) 3)).drew) := by
  subst hC
  refine ⟨_, _, rfl, rfl, ?_, ?_, (((Below.refl _ _).alloc (Nat.le_refl _) _).alloc (by simp) _).drew, Nat.le_refl _, by omega, by omega⟩
  · exact block_kept (below_alloc1 (w.alloc (.cells (tokC t).toArray 83)) (.cells (madeCells #[.int .i64 0] n) 3)) (heap_alloc_new w _)
  · have e : (w.alloc (.cells (tokC t).toArray 83)).heap.size = w.heap.size + 1 := by simp
    rw [← e]
    exact heap_alloc_new _ _

/-- What was read ahead, and what comes. -/
def preV (ns : List Int) : PR (List Int) → PR (List Int)
  | .ok (ms, r) => .ok (ns ++ ms, r)
  | .error e => .error e
theorem preV_nil (x : PR (List Int)) : preV [] x = x := by cases x <;> rfl
theorem preV_preV (ns : List Int) (n : Int) (x : PR (List Int)) : preV ns (preV [n] x) = preV (ns ++ [n]) x := by cases x <;> simp [preV]
theorem valsQ_num {doms : List (List Int)} {v : Int} {ss : List Int} {ts : List Tok} {e : Int × Int} (h : numberQ 1000000 ts = .error e) : valsQ doms (v :: ss) ts = .error e := by rw [valsQ, h]
theorem valsQ_bad {doms : List (List Int)} {v : Int} {ss : List Int} {ts : List Tok} {t : Tok} {r : List Tok} (h : numberQ 1000000 ts = .ok (t, r)) (hn : ¬ t.n ∈ nth [] doms v.toNat) : valsQ doms (v :: ss) ts = .error (t.at_, 6) := by
  rw [valsQ, h]; simp only; rw [if_neg hn]
theorem valsQ_go {doms : List (List Int)} {v : Int} {ss : List Int} {ts : List Tok} {t : Tok} {r : List Tok} (h : numberQ 1000000 ts = .ok (t, r)) (hn : t.n ∈ nth [] doms v.toNat) : valsQ doms (v :: ss) ts = preV [t.n] (valsQ doms ss r) := by
  rw [valsQ, h]; simp only; rw [if_pos hn]
  cases valsQ doms ss r <;> rfl
/-- The row as far as it is read: its first numbers, then zeros. -/
def rowCells (ns : List Int) (n : Nat) : Array Value := (ns.map (Value.int .i64) ++ List.replicate (n - ns.length) (Value.int .i64 0)).toArray
theorem rowCells_nil (n : Nat) : madeCells #[.int .i64 0] n = rowCells [] n := by
  apply Array.ext
  · simp [madeCells, rowCells]
  · intro i h1 h2
    simp [madeCells, rowCells, Nat.mod_one]
theorem rowCells_set (ns : List Int) (n : Nat) (x : Int) (h : ns.length < n) : (rowCells ns n).setIfInBounds ns.length (.int .i64 x) = rowCells (ns ++ [x]) n := by
  unfold rowCells
  apply Array.ext'
  obtain ⟨m, hm⟩ : ∃ m, n - ns.length = m + 1 := ⟨n - ns.length - 1, by omega⟩
  have hm2 : n - (ns ++ [x]).length = m := by simp; omega
  rw [hm, hm2, List.replicate_succ]
  simp [List.set_append_right]
theorem rowCells_at (ns : List Int) (n : Nat) (h : ns.length < n) : (rowCells ns n)[ns.length]? = some (.int .i64 0) := by
  obtain ⟨m, hm⟩ : ∃ m, n - ns.length = m + 1 := ⟨n - ns.length - 1, by omega⟩
  simp [rowCells, hm, List.replicate_succ]
theorem heap_setAt {W : World} {g i : Nat} {cs : Array Value} {t : TypeId} (h : W.heap[g]? = some (.cells cs t (0, 0))) (x : Value) : (W.setCell ⟨g, i, none⟩ x).heap[g]? = some (.cells (cs.setIfInBounds i x) t (0, 0)) := by
  simp [World.setCell, Array.getElem?_modify, h]
theorem rowCells_size (ns : List Int) (n : Nat) (h : ns.length ≤ n) : (rowCells ns n).size = n := by simp [rowCells]; omega
theorem rowCells_sl {W : World} {km n : Nat} {ns : List Int} {t : TypeId} {fr : Nat × Nat} (h : W.heap[km]? = some (.cells (rowCells ns n) t fr)) (hn : ns.length = n) (hl : n ≤ 140737488355328) : Sl (Kd.int .i64) W (fun k => k = km) (.slice (some ⟨km, 0, none⟩) n n) ns := by
  subst hn
  refine ⟨_, _, rfl, Nat.le_refl _, hl, fun j x hx => ⟨km, 0, [.int .i64 x], rfl, rfl, rfl, fun i u hu => ?_⟩⟩
  obtain rfl : i = 0 := by have := (List.getElem?_eq_some_iff.1 hu).1; simpa using this
  simp at hu; subst hu
  refine cell_at h ?_
  show (rowCells ns ns.length)[0 + (j * 1 + 0)]? = _
  rw [Nat.mul_one, Nat.add_zero, Nat.zero_add]
  have hj := (List.getElem?_eq_some_iff.1 hx).1
  simp [rowCells, hx]
/-- The rows with one more, and what is left. -/
def RowOut (g base : Nat) (w w' : World) (okA : Nat → Prop) (dv hv sv va : Value) (e : Ending) (rows : List (List Int)) (r : List Tok) : Prop :=
  ∃ va' ok', e = .returned va' ∧ OwnD kRow 41 base ok' va' rows w' ∧ (∀ k, ok' k → okA k ∨ (w.heap.size ≤ k ∧ k < w'.heap.size)) ∧ PB g w' r dv hv sv ∧ Toks r ∧ (va'.ownBlock = va.ownBlock ∨ ∃ k, va'.ownBlock = some k ∧ w.heap.size ≤ k)
theorem OwnD.rowAt {α : Type} {d : Kd α} {hs : 0 < d.sz} {E : TypeId} {base : Nat} {ok : Nat → Prop} {A : Option Addr} {n c : Nat} {xs : List (List α)} {w : World} (h : OwnD (Kd.slice d hs) E base ok (.slice A n c) xs w) (hl : xs.length ≤ 140737488355328) {j : Nat} (hj : j < xs.length) :
    ∃ b v, A = some ⟨b, 0, none⟩ ∧ w.cell? ⟨b, j, none⟩ = some v ∧ Sl d w (fun _ => True) v (nth [] xs j) := by
  obtain ⟨b, o, v, hA, hc, hsl⟩ := (Sl.elems (h.sl hl)).row hj
  obtain ⟨css, _, h3⟩ := h.open_
  rcases h3.2 with ⟨_, h0⟩ | ⟨g, cap, cur, hv, _⟩
  · omega
  · injection hv with hv _ _
    rw [hA] at hv
    injection hv with hv
    injection hv with _ hv _
    subst hv
    exact ⟨b, v, hA, by rw [Nat.zero_add] at hc; exact hc, hsl.mono fun _ _ => trivial⟩
def RowRel (g : Nat) (w wc : World) (doms : List (List Int)) (dv hv sv : Value) (scope : List Int) (ts : List Tok) (t : Tok) (kt km : Nat) (k : Nat) (v : Value) (wr : World) : Prop :=
  ∃ (i : Nat) (ts' : List Tok) (ns : List Int), k = scope.length - i ∧ i ≤ scope.length ∧ ns.length = i ∧ v = .int .i64 i ∧ valsQ doms scope ts = preV ns (valsQ doms (scope.drop i) ts') ∧ PB g wr ts' dv hv sv ∧ Toks ts' ∧
    wr.heap[kt]? = some (.cells (tokC t).toArray 83 (0, 0)) ∧ wr.heap[km]? = some (.cells (rowCells ns scope.length) 3 (0, 0)) ∧ Chg (fun k => k = g) w wr ∧ wc.heap.size ≤ wr.heap.size

set_option maxRecDepth 100000 in
set_option maxHeartbeats 4000000 in
theorem row_p (g base : Nat) (w : World) (ts : List Tok) (doms : List (List Int)) (DA : Option Addr) (Dc : Nat) (hv sv : Value) (okD okS okA : Nat → Prop) (scope : List Int) (SA : Option Addr) (Sc : Nat) (ahead : List (List Int)) (va : Value)
    (h : PB g w ts (.slice DA doms.length Dc) hv sv) (hT : Toks ts) (hD : Sl kRow w okD (.slice DA doms.length Dc) doms) (hDg : ∀ k, okD k → g < k)
    (hS : Sl (Kd.int .i64) w okS (.slice SA scope.length Sc) scope) (hSg : ∀ k, okS k → g < k) (hs6 : scope.length ≤ 6) (hsr : ∀ v ∈ scope, 0 ≤ v ∧ v < doms.length)
    (hA : OwnD kRow 41 base okA va ahead w) (hgb : g < base) (hbs : base ≤ w.heap.size) (hAk : ∀ k, okA k → g < k ∧ k < w.heap.size) (hal : ahead.length ≤ 1000000) :
    Calls Tryz.prog 104 #[.pointer (some ⟨g, 0, none⟩), .slice SA scope.length Sc, va] w fun e w' => Out (rowQ doms scope ahead ts) (RowOut g base w w' okA (.slice DA doms.length Dc) hv sv va e) e ∧ Chg (fun k => k = g ∨ va.ownBlock = some k) w w' := by
  have hgw := h.lt
  obtain ⟨t, r, rfl⟩ := hT.cons
  obtain ⟨AA, Ac, rfl, hAc, _, _⟩ := hA.sl (by omega)
  have HP := Lib.hid h
  have HT := Lib.hid hT
  have HD := Lib.hid hD
  have HS := Lib.hid hS
  have HA := Lib.hid hA
  obtain ⟨A, n, c, hg, hs⟩ := h
  obtain ⟨b, o, rfl, hb, hn, hnc, hmc, c0, c1, c2, c3⟩ := tok_head hs
  have g0 := cell_at hg (i := 0) rfl
  have hn0 : 0 < n := by omega
  have hTK : Hid (tokC t = [.int .i64 t.kind, .string ⟨t.text.toArray⟩, .int .i64 t.n, .int .i64 t.at_]) := Lib.hid rfl
  generalize (ByteArray.mk t.text.toArray) = tb at c1 hTK
  clear hs hg hn hT hD hS hA
  obtain ⟨i0, hi, hz0, hz1, hz2⟩ := info_parts (show (Tryz.prog.info? 3).map (fun i => (i.zero, i.size, i.bytes)) = some (some (.int .i64 0), 1, 8) by kernel_rfl)
  have hmk : ∀ W : World, (Instr.makeSlice 41 (.int .i64 (scope.length : Int)) (.int .i64 (scope.length : Int))).run Tryz.prog W = .ok (.slice (some ⟨W.heap.size, 0, none⟩) scope.length scope.length) (W.alloc (.cells (madeCells #[.int .i64 0] scope.length) 3)) := fun W => by
    have := run_make_rowN (P := Tryz.prog) 41 3 i0 _ Tryz.underlying41 hi hz0 .i64 .i64 scope.length scope.length (Nat.le_refl _) (by rw [hz2]; omega) (by omega) W
    rw [this, hz1, Nat.mul_one]
    rfl
  clear hi hz0 hz1 hz2
  go_enter Tryz.func104, Tryz.ntmps104
  go_wp2_with fail
  go_upto_region 1 with fail
  go_cut [7, 8] (fun s7 s8 wx => RowHead w t scope.length s7 s8 wx)
  case first =>
    go_region_held3 (fun w' => w'.cell? ⟨g, 0, none⟩ = some (.slice (some ⟨b, o, none⟩) n c) ∧ w'.cell? ⟨b, o, none⟩ = some (.int .i64 t.kind) ∧ w'.cell? ⟨b, o + 1, none⟩ = some (.string tb) ∧ w'.cell? ⟨b, o + 2, none⟩ = some (.int .i64 t.n) ∧ w'.cell? ⟨b, o + 3, none⟩ = some (.int .i64 t.at_)) (go_keep) (fail)
    all_goals
      go_wp2_with fail
      go_meet
      first
        | exact row_head _ _ _ (by rw [hTK.out])
        | exact row_head' _ _ _ (by rw [hTK.out])
  case rest =>
    obtain ⟨kt, km, rfl, rfl, hkt, hkm, hbw, hlt, hlm, hne⟩ := hcut
    have HKT := Lib.hid hkt
    have HKM := Lib.hid hkm
    have HB := Lib.hid hbw
    have hsz := hbw.size
    clear hkt hkm hbw hTK c0 c1 c2 c3 g0 hmk
    go_wp2
    go_loopg [23] scope.length (fun k v wr => RowRel g w wc doms (.slice DA doms.length Dc) hv sv scope (t :: r) t kt km k v wr)
    case atStart => exact ⟨0, t :: r, [], by omega, by omega, rfl, rfl, (preV_nil _).symm, HP.out.grown (below_grown0 HB.out none) (by simp), HT.out, HKT.out, by rw [HKM.out, rowCells_nil], chg_of_below HB.out _, Nat.le_refl _⟩
    case round =>
      clear HKT HKM HP HT
      obtain ⟨i, ts2, ns, hk, hil, hns, rfl, hq, hp, hT2, hkt, hkm, hch, hszr⟩ := hrel
      obtain ⟨t2, r2, rfl⟩ := hT2.cons
      have HK := Lib.hid hk
      have HQ := Lib.hid hq
      have HP := Lib.hid hp
      have HT := Lib.hid hT2
      have HKT := Lib.hid hkt
      have HKM := Lib.hid hkm
      have HG := Lib.hid hch
      have HN := Lib.hid hns
      clear hk hq hp hT2 hkt hkm hch hns
      by_cases hlt : i < scope.length
      · obtain ⟨hq0, hq1⟩ := hsr (nth 0 scope i) (List.mem_of_getElem? (nth_get 0 scope i hlt))
        obtain ⟨q, hq⟩ : ∃ q : Nat, nth 0 scope i = q := ⟨(nth 0 scope i).toNat, by omega⟩
        obtain ⟨sb, so, rfl, hsc⟩ := (Sl.elems (HS.out.chg (by decide) HG.out (fun k hk e => by have := hSg k hk; omega))).num hlt
        rw [hq] at hsc hq0 hq1
        have hqd : q < doms.length := by omega
        have hdrop : valsQ doms (scope.drop i) (t2 :: r2) = valsQ doms ((q : Int) :: scope.drop (i + 1)) (t2 :: r2) := by rw [drop_cons scope 0 i hlt, hq]
        have hq2 := HQ.out.trans (congrArg (preV ns) hdrop)
        clear hdrop HQ hq hq0 hq1
        have hn := Lib.hid (number_p g wr t2 r2 _ _ _ 1000000 (by decide) (by decide) HP.out)
        by_cases hk : (t2.kind == 2) = true
        · by_cases hsm : smallB t2.n 1000000 = true
          · have hnq : numberQ 1000000 (t2 :: r2) = .ok (t2, r2) := by simp [numberQ, hk, hsm]
            simp only [hk, hsm, if_true] at hn
            have hTK : Hid (tokC t2 = [.int .i64 t2.kind, .string ⟨t2.text.toArray⟩, .int .i64 t2.n, .int .i64 t2.at_]) := Lib.hid rfl
            generalize (ByteArray.mk t2.text.toArray) = tb2 at hTK
            have HT2 := Lib.hid (HT.out.tail (fun h => by simp [h] at hk))
            clear hk hsm
            go_wp2_with (go_at_call 101; refine hn.out.mono ?_; rintro e W2 ⟨⟨rfl, hp2⟩, hg2⟩; (have HG2 := Lib.hid ((HG.out.trans (chg_g hg2 (fun k => k = g) rfl) (fun _ _ h => h)).alloc (.cells #[.int .i64 t2.kind, .string tb2, .int .i64 t2.n, .int .i64 t2.at_] 83)).drew); (have HP2 := Lib.hid (hp2.alloc (.cells #[.int .i64 t2.kind, .string tb2, .int .i64 t2.n, .int .i64 t2.at_] 83)).drew); (have HC2 := Lib.hid (((chg_g hg2 (fun k => k = g) rfl).alloc (.cells #[.int .i64 t2.kind, .string tb2, .int .i64 t2.n, .int .i64 t2.at_] 83)).drew)); clear hp2 hg2; rw [hTK.out])
            have HX2 := Lib.hid (block_kept (Below.drew (Below.refl _ _)) (heap_alloc_new W2 (.cells #[.int .i64 t2.kind, .string tb2, .int .i64 t2.n, .int .i64 t2.at_] 83)))
            have HKT2 := Lib.hid (HC2.out.heap HKT.out (fun e => by omega))
            have HKM2 := Lib.hid (HC2.out.heap HKM.out (fun e => by omega))
            have hsz2 := HC2.out.size
            clear HKT HKM HC2 hn
            refine wp_region_still_tail 12 (by kernel_rfl) (by kernel_rfl) ?_
            change wpStill _ _ (World.drew (W2.alloc (.cells #[.int .i64 t2.kind, .string tb2, .int .i64 t2.n, .int .i64 t2.at_] 83))) (fun a' => wpList _ _ _ _ a' (World.drew (W2.alloc (.cells #[.int .i64 t2.kind, .string tb2, .int .i64 t2.n, .int .i64 t2.at_] 83)))) _ _
            generalize World.drew (W2.alloc (.cells #[.int .i64 t2.kind, .string tb2, .int .i64 t2.n, .int .i64 t2.at_] 83)) = W at *
            generalize W2.heap.size = k2 at *
            have hdr := HD.out.chg (by decide) HG2.out (fun k hk e => by have := hDg k hk; omega)
            obtain ⟨db, dof, dv, rfl, hdc, hds⟩ := (Sl.elems hdr).row hqd
            have hct := calls_turn (contains_any dv (nth [] doms q) t2.n okD W hds)
            obtain ⟨dA, dc, rfl, _, _, _⟩ := hds
            have HCT := Lib.hid hct
            obtain ⟨A', n', c', hgb2, _⟩ := HP2.out
            have g1 := cell_at hgb2 (i := 1) rfl
            have d0 := cell_at HX2.out (i := 0) rfl
            have d1 := cell_at HX2.out (i := 1) rfl
            have d2 := cell_at HX2.out (i := 2) rfl
            have d3 := cell_at HX2.out (i := 3) rfl
            clear hgb2 hdr hct
            simp only [List.take_succ_cons, List.take_zero, List.drop_succ_cons, List.drop_zero]
            repeat (first | (refine still_plain rfl (fun K hK => ?_); go_simp; refine hK _ ?_; clear hK K) | (refine still_off _ _ _ _ _ rfl rfl rfl rfl rfl (fun K hK => ?_); go_simp; refine hK _ ?_; clear hK K) | (refine still_on _ _ _ _ rfl rfl rfl rfl (fun K hK => ?_); go_simp; refine hK _ ?_; clear hK K) | (refine still_dead _ _ _ _ rfl rfl rfl rfl (fun K hK => ?_); go_simp; refine hK _ ?_; clear hK K))
            ((first | refine still_plain rfl (fun K hK => ?_) | refine still_on _ _ _ _ rfl rfl rfl rfl (fun K hK => ?_)); go_simp; refine ⟨_, HCT.out, hK _ ?_⟩; clear hK K)
            repeat (first | (refine still_plain rfl (fun K hK => ?_); go_simp; refine hK _ ?_; clear hK K) | (refine still_off _ _ _ _ _ rfl rfl rfl rfl rfl (fun K hK => ?_); go_simp; refine hK _ ?_; clear hK K) | (refine still_on _ _ _ _ rfl rfl rfl rfl (fun K hK => ?_); go_simp; refine hK _ ?_; clear hK K) | (refine still_dead _ _ _ _ rfl rfl rfl rfl (fun K hK => ?_); go_simp; refine hK _ ?_; clear hK K))
            refine wpStill_nil ?_
            by_cases hmem : t2.n ∈ nth [] doms q
            · have HR : Hid (valsQ doms scope (t :: r) = preV (ns ++ [t2.n]) (valsQ doms (scope.drop (i + 1)) r2)) := Lib.hid (by rw [hq2, valsQ_go hnq (by simpa using hmem), preV_preV])
              have hdb : decide (t2.n ∈ nth [] doms q) = true := by simpa using hmem
              clear hq2 hnq
              go_wp2_with (go_at_call 71; refine (must_yes _ _ _ _ _ _ _ (by first | rfl | exact hdb)).mono ?_; rintro e W5 ⟨rfl, hb5⟩; (have HX5 := Lib.hid (block_kept hb5 HX2.out)); (have HKM5 := Lib.hid (block_kept hb5 HKM2.out)); (have HKT5 := Lib.hid (block_kept hb5 HKT2.out)); (have HG5 := Lib.hid (HG2.out.thenBelow hb5)); (have HP5 := Lib.hid (HP2.out.grown (below_grown0 hb5 none) (by simp))); (have e2 := cell_at HX5.out (i := 2) rfl); (have e3 := cell_at HKM5.out (i := i) (u := .int .i64 0) (by rw [← HN.out]; exact rowCells_at ns scope.length (by have := HN.out; omega))); (have e4 := Lib.frozen_of_heap HKM5.out i); (have hwc5 : wc.heap.size ≤ W5.heap.size := by have := hb5.size; omega); clear hb5 d0 d1 d2 d3 HX2 HG2 HP2 HKM2 HKT2)
              go_roundg (scope.length - (i + 1))
              case rel => exact ⟨i + 1, r2, ns ++ [t2.n], rfl, by omega, by simp; exact HN.out, by go_num, HR.out, HP5.out.chg (chg_setCell W5 km i _) (fun k hk e => by omega), HT2.out, (chg_setCell W5 km i _).heap HKT5.out (fun e => by omega),
                by rw [heap_setAt HKM5.out, ← rowCells_set ns scope.length t2.n (by have := HN.out; omega), HN.out], HG5.out.trans (chg_setCell W5 km i _) (fun j hj e => by omega), by rw [Go.Deep.nblk_setCell]; exact hwc5⟩
              case measure => have := HK.out; omega
            · have HR : Hid (rowQ doms scope ahead (t :: r) = .error (t2.at_, 6)) := Lib.hid (by rw [rowQ, hq2, valsQ_bad hnq (by simpa using hmem)]; rfl)
              have hdb : decide (t2.n ∈ nth [] doms q) = false := by simpa using hmem
              clear hq2 hnq
              go_wp2_with (go_at_call 71; refine (must_no _ _ _ _ _ _ _ (by first | rfl | exact hdb)).mono ?_; rintro e W5 ⟨rfl, hb5⟩; refine ⟨rfl, ?_⟩; rw [HR.out]; exact ⟨rfl, (HG2.out.thenBelow hb5).mono (fun _ _ h => Or.inl h)⟩)
          · have hsm := Bool.eq_false_iff.2 hsm
            have hnq : numberQ 1000000 (t2 :: r2) = .error (t2.at_, 4) := by simp [numberQ, hk, hsm]
            have HR : Hid (rowQ doms scope ahead (t :: r) = .error (t2.at_, 4)) := Lib.hid (by rw [rowQ, hq2, valsQ_num hnq]; rfl)
            simp only [hk, hsm, Bool.false_eq_true, if_false, if_true] at hn
            clear hq2 hnq hk hsm
            go_wp2_with (go_at_call 101; refine hn.out.mono ?_; rintro e W2 ⟨rfl, hg2⟩; refine ⟨rfl, ?_⟩; rw [HR.out]; exact ⟨rfl, (HG.out.trans (chg_g hg2 (fun k => k = g) rfl) (fun _ _ h => h)).mono (fun _ _ h => Or.inl h)⟩)
        · have hk := Bool.eq_false_iff.2 hk
          have hnq : numberQ 1000000 (t2 :: r2) = .error (t2.at_, 3) := by simp [numberQ, hk]
          have HR : Hid (rowQ doms scope ahead (t :: r) = .error (t2.at_, 3)) := Lib.hid (by rw [rowQ, hq2, valsQ_num hnq]; rfl)
          simp only [hk, Bool.false_eq_true, if_false] at hn
          clear hq2 hnq hk
          go_wp2_with (go_at_call 101; refine hn.out.mono ?_; rintro e W2 ⟨rfl, hg2⟩; refine ⟨rfl, ?_⟩; rw [HR.out]; exact ⟨rfl, (HG.out.trans (chg_g hg2 (fun k => k = g) rfl) (fun _ _ h => h)).mono (fun _ _ h => Or.inl h)⟩)
      · have hie : i = scope.length := by omega
        have hq2 : valsQ doms scope (t :: r) = .ok (ns, t2 :: r2) := by rw [HQ.out, hie, List.drop_length]; simp [valsQ, preV]
        have hR : rowQ doms scope ahead (t :: r) = if ahead.length = 0 ∨ cmpL (nth [] ahead (ahead.length - 1)) ns < 0 then .ok (ahead ++ [ns], t2 :: r2) else .error (t.at_, 6) := by
          rw [rowQ, hq2]
          rfl
        have HN2 : Hid (ns.length = scope.length) := Lib.hid (by rw [HN.out, hie])
        clear HQ hq2 HN hie
        have HTK : Hid (tokC t = [.int .i64 t.kind, .string ⟨t.text.toArray⟩, .int .i64 t.n, .int .i64 t.at_]) := Lib.hid rfl
        obtain ⟨iR, hiR, hR0, hR1, hR2⟩ := info_parts (show (Tryz.prog.info? 41).map (fun i => (i.zero, i.size, i.bytes)) = some (some (.slice none 0 0), 1, 24) by kernel_rfl)
        have HG2 := Lib.hid HG.out.drew
        have HP2 := Lib.hid HP.out.drew
        have hkt2 : (World.drew wr).heap[kt]? = _ := HKT.out
        have HKM2 : Hid ((World.drew wr).heap[km]? = _) := HKM
        have HA2 := Lib.hid (HA.out.chg HG2.out (fun k hk e => by have := hAk k hk; omega) (fun k hk e => by have := HA.out.own k hk; omega))
        rw [HTK.out] at hkt2
        generalize (ByteArray.mk t.text.toArray) = tb2 at hkt2
        have d0 := cell_at hkt2 (i := 0) rfl
        have d1 := cell_at hkt2 (i := 1) rfl
        have d2 := cell_at hkt2 (i := 2) rfl
        have d3 := cell_at hkt2 (i := 3) rfl
        have hkmw := lt_of_block HKM.out
        go_wp2_with fail
        refine wp_region_still_tail 15 (by kernel_rfl) (by kernel_rfl) ?_
        change wpStill _ _ (World.drew wr) (fun a' => wpList _ _ _ _ a' (World.drew wr)) _ _
        have hkmw2 : km < (World.drew wr).heap.size := hkmw
        clear HG HP HKT HKM hkt2 hkmw HTK
        generalize World.drew wr = W at *
        simp only [List.take_succ_cons, List.take_zero, List.drop_succ_cons, List.drop_zero]
        by_cases h0 : ahead.length = 0
        · obtain rfl : ahead = [] := List.eq_nil_of_length_eq_zero h0
          have HR : Hid (rowQ doms scope [] (t :: r) = .ok ([] ++ [ns], t2 :: r2)) := Lib.hid (by rw [hR, if_pos (.inl rfl)])
          have hdb : True := trivial
          clear hR h0
          repeat (first | (refine still_plain rfl (fun K hK => ?_); go_simp; refine hK _ ?_; clear hK K) | (refine still_off _ _ _ _ _ rfl rfl rfl rfl rfl (fun K hK => ?_); go_simp; refine hK _ ?_; clear hK K) | (refine still_on _ _ _ _ rfl rfl rfl rfl (fun K hK => ?_); go_simp; refine hK _ ?_; clear hK K) | (refine still_dead _ _ _ _ rfl rfl rfl rfl (fun K hK => ?_); go_simp; refine hK _ ?_; clear hK K))
          refine wpStill_nil ?_
          go_wp2_with (first
            | (go_at_call 71; refine (must_yes _ _ _ _ _ _ _ (by first | rfl | exact hdb)).mono ?_; rintro e W5 ⟨rfl, hb5⟩; (have HKM5 := Lib.hid (block_kept (below_alloc1 W5 (.cells #[.slice (some ⟨km, 0, none⟩) scope.length scope.length] 41)) (block_kept hb5 HKM2.out))); (have HG5 := Lib.hid ((HG2.out.thenBelow hb5).alloc (.cells #[.slice (some ⟨km, 0, none⟩) scope.length scope.length] 41))); (have HP5 := Lib.hid ((HP2.out.grown (below_grown0 hb5 none) (by simp)).alloc (.cells #[.slice (some ⟨km, 0, none⟩) scope.length scope.length] 41))); (have ho5 := (((HA2.out.chg (chg_of_below hb5 (fun _ => False)) (fun _ _ h => h.elim) (fun _ _ h => h.elim)).chg (Chg.alloc0 W5 (.cells #[.slice (some ⟨km, 0, none⟩) scope.length scope.length] 41) (fun _ => False)) (fun _ _ h => h.elim) (fun _ _ h => h.elim)).mono (ok' := fun k => okA k ∨ k = km) (fun _ h => Or.inl h) (fun k hk h => by have h1 := HA.out.own k hk; rcases h with h | h; exact h1.2.2 h; omega))); obtain ⟨css, hc1, hc2⟩ := ho5.open_; (have HC1 := Lib.hid hc1); (have HC2 := Lib.hid hc2); (have hws5 : w.heap.size ≤ W5.heap.size := by have := HG5.out.size; have := hb5.size; omega); (have hkm5 : km < W5.heap.size := by have := hb5.size; omega); clear hb5 d0 d1 d2 d3 HG2 HP2 HKM2 HA2 ho5 hc1 hc2)
            | (at_builtin; refine wpList_append_lies _ rfl _ _ 22 rfl base 41 iR _ 1 24 Tryz.underlying22 hiR hR0 hR1 hR2 rfl (by decide) _ ([] : List (List Int)).length css.flatten rfl HC2.out ⟨_, 0, none⟩ 1 1 [.slice (some ⟨km, 0, none⟩) scope.length scope.length] rfl rfl (World.news_of_block (cs := #[.slice (some ⟨km, 0, none⟩) scope.length scope.length]) (t := 41) (fr := (0, 0)) (heap_alloc_new W5 _)) (by simp [Value.oneCell']) (by decide) (by (try simp only [maxLen]); (try simp); try omega) (by (try simp); try omega) (by simp; omega) (W5.heap.size + 1) (by simp) ?_))
          intro kb cap w2 hown' hgrow hat hlt
          have HX := Lib.hid (OwnD.snoc (x := ns) HC1.out.1 HC1.out.2.1 HC1.out.2.2 ⟨_, rfl, (rowCells_sl HKM5.out HN2.out (by omega)).mono (fun _ h => Or.inr h)⟩ hgrow hown' (hat_of hat (by simp)) (fun k hk => by simp; rcases hk with hk | hk; have := hAk k hk; omega; omega))
          have HG6 := Lib.hid ((HG5.out.mono (fun j _ h => (Or.inl h : j = g ∨ (Value.slice AA ([] : List (List Int)).length Ac).ownBlock = some j))).trans (chg_of_grown hgrow) (fun j hj hs => Or.inr hs))
          have HP6 := Lib.hid (HP5.out.grown hgrow (fun k hk => by have := (HC2.out.lt k hk).1; omega))
          have hs6' : W5.heap.size < w2.heap.size := by have := hgrow.size; simp at this; omega
          clear hown' hgrow
          go_wp2
          go_ret
          refine ⟨?_, HG6.out⟩
          rw [HR.out]
          refine ⟨_, _, rfl, HX.out, fun k hk => ?_, HP6.out, HT.out, ?_⟩
          · rcases hk with hk | hk
            · exact Or.inl hk
            · exact Or.inr ⟨by omega, by omega⟩
          · rcases hat with h | h
            · exact Or.inl h.symm
            · exact Or.inr ⟨kb, rfl, by omega⟩
        · have hb0 : ((ahead.length : Int) == 0) = false := beq_eq_false_iff_ne.2 (by omega)
          have h3p : 0 < ahead.length := by omega
          have w1 : IntKind.i64.wrap ((ahead.length : Int) - 1) = (ahead.length : Int) - 1 := IntWalk.i64_in _ (by omega)
          have w2 : ((ahead.length : Int) - 1).toNat = ahead.length - 1 := by omega
          have w3 : (0 : Int) ≤ (ahead.length : Int) - 1 := by omega
          have w5 : (1 : Int) ≤ (ahead.length : Int) := by omega
          have w4 : (ahead.length : Int) - 1 < (ahead.length : Int) := by omega
          obtain ⟨ab, lv, rfl, hlc, hls⟩ := HA2.out.rowAt (by omega) (j := ahead.length - 1) (by omega)
          have HCT := Lib.hid (calls_turn (tcompare_any _ _ _ _ _ W hls ((rowCells_sl HKM2.out HN2.out (by omega)).mono (fun _ _ => trivial))))
          obtain ⟨lA, lc, rfl, _, _, _⟩ := hls
          by_cases hcm : cmpL (nth [] ahead (ahead.length - 1)) ns < 0
          · have HR : Hid (rowQ doms scope ahead (t :: r) = .ok (ahead ++ [ns], t2 :: r2)) := Lib.hid (by rw [hR, if_pos (.inr hcm)])
            have hdb : decide (cmpL (nth [] ahead (ahead.length - 1)) ns < 0) = true := by simpa using hcm
            clear hR h0
            repeat (first | (refine still_plain rfl (fun K hK => ?_); go_simp; refine hK _ ?_; clear hK K) | (refine still_off _ _ _ _ _ rfl rfl rfl rfl rfl (fun K hK => ?_); go_simp; refine hK _ ?_; clear hK K) | (refine still_on _ _ _ _ rfl rfl rfl rfl (fun K hK => ?_); go_simp; refine hK _ ?_; clear hK K) | (refine still_dead _ _ _ _ rfl rfl rfl rfl (fun K hK => ?_); go_simp; refine hK _ ?_; clear hK K))
            ((first | refine still_plain rfl (fun K hK => ?_) | refine still_on _ _ _ _ rfl rfl rfl rfl (fun K hK => ?_)); go_simp; refine ⟨_, HCT.out, hK _ ?_⟩; clear hK K)
            repeat (first | (refine still_plain rfl (fun K hK => ?_); go_simp; refine hK _ ?_; clear hK K) | (refine still_off _ _ _ _ _ rfl rfl rfl rfl rfl (fun K hK => ?_); go_simp; refine hK _ ?_; clear hK K) | (refine still_on _ _ _ _ rfl rfl rfl rfl (fun K hK => ?_); go_simp; refine hK _ ?_; clear hK K) | (refine still_dead _ _ _ _ rfl rfl rfl rfl (fun K hK => ?_); go_simp; refine hK _ ?_; clear hK K))
            refine wpStill_nil ?_
            go_wp2_with (first
              | (go_at_call 71; refine (must_yes _ _ _ _ _ _ _ (by first | rfl | exact hdb)).mono ?_; rintro e W5 ⟨rfl, hb5⟩; (have HKM5 := Lib.hid (block_kept (below_alloc1 W5 (.cells #[.slice (some ⟨km, 0, none⟩) scope.length scope.length] 41)) (block_kept hb5 HKM2.out))); (have HG5 := Lib.hid ((HG2.out.thenBelow hb5).alloc (.cells #[.slice (some ⟨km, 0, none⟩) scope.length scope.length] 41))); (have HP5 := Lib.hid ((HP2.out.grown (below_grown0 hb5 none) (by simp)).alloc (.cells #[.slice (some ⟨km, 0, none⟩) scope.length scope.length] 41))); (have ho5 := (((HA2.out.chg (chg_of_below hb5 (fun _ => False)) (fun _ _ h => h.elim) (fun _ _ h => h.elim)).chg (Chg.alloc0 W5 (.cells #[.slice (some ⟨km, 0, none⟩) scope.length scope.length] 41) (fun _ => False)) (fun _ _ h => h.elim) (fun _ _ h => h.elim)).mono (ok' := fun k => okA k ∨ k = km) (fun _ h => Or.inl h) (fun k hk h => by have h1 := HA.out.own k hk; rcases h with h | h; exact h1.2.2 h; omega))); obtain ⟨css, hc1, hc2⟩ := ho5.open_; (have HC1 := Lib.hid hc1); (have HC2 := Lib.hid hc2); (have hws5 : w.heap.size ≤ W5.heap.size := by have := HG5.out.size; have := hb5.size; omega); (have hkm5 : km < W5.heap.size := by have := hb5.size; omega); clear hb5 d0 d1 d2 d3 HG2 HP2 HKM2 HA2 ho5 hc1 hc2)
              | (at_builtin; refine wpList_append_lies _ rfl _ _ 22 rfl base 41 iR _ 1 24 Tryz.underlying22 hiR hR0 hR1 hR2 rfl (by decide) _ ahead.length css.flatten rfl HC2.out ⟨_, 0, none⟩ 1 1 [.slice (some ⟨km, 0, none⟩) scope.length scope.length] rfl rfl (World.news_of_block (cs := #[.slice (some ⟨km, 0, none⟩) scope.length scope.length]) (t := 41) (fr := (0, 0)) (heap_alloc_new W5 _)) (by simp [Value.oneCell']) (by decide) (by (try simp only [maxLen]); (try simp); try omega) (by (try simp); try omega) (by simp; omega) (W5.heap.size + 1) (by simp) ?_))
            intro kb cap w2 hown' hgrow hat hlt
            have HX := Lib.hid (OwnD.snoc (x := ns) HC1.out.1 HC1.out.2.1 HC1.out.2.2 ⟨_, rfl, (rowCells_sl HKM5.out HN2.out (by omega)).mono (fun _ h => Or.inr h)⟩ hgrow hown' (hat_of hat (by simp)) (fun k hk => by simp; rcases hk with hk | hk; have := hAk k hk; omega; omega))
            have HG6 := Lib.hid ((HG5.out.mono (fun j _ h => (Or.inl h : j = g ∨ (Value.slice (some ⟨ab, 0, none⟩) ahead.length Ac).ownBlock = some j))).trans (chg_of_grown hgrow) (fun j hj hs => Or.inr hs))
            have HP6 := Lib.hid (HP5.out.grown hgrow (fun k hk => by have := (HC2.out.lt k hk).1; omega))
            have hs6' : W5.heap.size < w2.heap.size := by have := hgrow.size; simp at this; omega
            clear hown' hgrow
            go_wp2
            go_ret
            refine ⟨?_, HG6.out⟩
            rw [HR.out]
            refine ⟨_, _, rfl, HX.out, fun k hk => ?_, HP6.out, HT.out, ?_⟩
            · rcases hk with hk | hk
              · exact Or.inl hk
              · exact Or.inr ⟨by omega, by omega⟩
            · rcases hat with h | h
              · exact Or.inl h.symm
              · exact Or.inr ⟨kb, rfl, by omega⟩
          · have HR : Hid (rowQ doms scope ahead (t :: r) = .error (t.at_, 6)) := Lib.hid (by rw [hR, if_neg (by omega)])
            have hdb : decide (cmpL (nth [] ahead (ahead.length - 1)) ns < 0) = false := by simpa using hcm
            clear hR h0
            repeat (first | (refine still_plain rfl (fun K hK => ?_); go_simp; refine hK _ ?_; clear hK K) | (refine still_off _ _ _ _ _ rfl rfl rfl rfl rfl (fun K hK => ?_); go_simp; refine hK _ ?_; clear hK K) | (refine still_on _ _ _ _ rfl rfl rfl rfl (fun K hK => ?_); go_simp; refine hK _ ?_; clear hK K) | (refine still_dead _ _ _ _ rfl rfl rfl rfl (fun K hK => ?_); go_simp; refine hK _ ?_; clear hK K))
            ((first | refine still_plain rfl (fun K hK => ?_) | refine still_on _ _ _ _ rfl rfl rfl rfl (fun K hK => ?_)); go_simp; refine ⟨_, HCT.out, hK _ ?_⟩; clear hK K)
            repeat (first | (refine still_plain rfl (fun K hK => ?_); go_simp; refine hK _ ?_; clear hK K) | (refine still_off _ _ _ _ _ rfl rfl rfl rfl rfl (fun K hK => ?_); go_simp; refine hK _ ?_; clear hK K) | (refine still_on _ _ _ _ rfl rfl rfl rfl (fun K hK => ?_); go_simp; refine hK _ ?_; clear hK K) | (refine still_dead _ _ _ _ rfl rfl rfl rfl (fun K hK => ?_); go_simp; refine hK _ ?_; clear hK K))
            refine wpStill_nil ?_
            go_wp2_with (go_at_call 71; refine (must_no _ _ _ _ _ _ _ (by first | rfl | exact hdb)).mono ?_; rintro e W5 ⟨rfl, hb5⟩; refine ⟨rfl, ?_⟩; rw [HR.out]; exact ⟨rfl, (HG2.out.thenBelow hb5).mono (fun _ _ h => Or.inl h)⟩)
end Go.Proofs.YtoahaigfjfeopaaGreatDoor
