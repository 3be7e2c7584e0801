/- Texts joined: Wy Bd Wz Wab Wac Wad Wae. -/
import Derived.Test.YtgpgmmkkmoecmaaGreatDoorNmd
import Derived.Deep.RegionHeld3
import Derived.Deep.DeepCutAuto
import Derived.Deep.DrawnRows
import Derived.OrdersHeld
import Derived.Test.YtgpgmmkkmoecmaaGreatDoorNma
/- inst.parser: row. -/
namespace Go.Proofs.YtgpgmmkkmoecmaaGreatDoor
open Go.RowKit
attribute [local irreducible] wpStill Calls
attribute [local go_sem ↓] Go.wp_at_zero Go.wp_at_succ

/-- What the first statement leaves: the token in a block, and a row of zeros. -/
def RowHead (w : World) (t : Tok) (n : Nat) (s7 s8 : Value) (wx : World) : Prop :=
  ∃ kt km, s7 = .pointer (some ⟨kt, 0, none⟩) ∧ s8 = .slice (some ⟨km, 0, none⟩) n n ∧ wx.heap[kt]? = some (.cells (tokC t).toArray 82 (0, 0)) ∧ wx.heap[km]? = some (.cells (madeCells #[.int .i64 0] n) 3 (0, 0)) ∧
    Below w.heap.size w wx ∧ w.heap.size ≤ kt ∧ w.heap.size ≤ km ∧ kt ≠ km

theorem row_head (w : World) (t : Tok) (n : Nat) {C : Array Value} (hC : (tokC t).toArray = C) :
    RowHead w t n (.pointer (some ⟨w.heap.size + 1, 0, none⟩)) (.slice (some ⟨w.heap.size, 0, none⟩) n n) (((w.alloc (.cells (madeCells #[.int .i64 0] n) 3)).alloc (.cells C 82)).drew) := by
  subst hC
  refine ⟨_, _, rfl, rfl, ?_, ?_, (((Below.refl _ _).alloc (Nat.le_refl _) _).alloc (by simp) _).drew, by omega, Nat.le_refl _, by omega⟩
  · have e : (w.alloc (.cells (madeCells #[.int .i64 0] n) 3)).heap.size = w.heap.size + 1 := by simp
    rw [← e]
    exact heap_alloc_new _ _
  · exact block_kept (below_alloc1 (w.alloc (.cells (madeCells #[.int .i64 0] n) 3)) (.cells (tokC t).toArray 82)) (heap_alloc_new w _)
theorem row_head' (w : World) (t : Tok) (n : Nat) {C : Array Value} (hC : (tokC t).toArray = C) :
    RowHead w t n (.pointer (some ⟨w.heap.size, 0, none⟩)) (.slice (some ⟨w.heap.size + 1, 0, none⟩) n n) (((w.alloc (.cells C 82)).alloc (.cells (madeCells #[.int .i64 0] n) 3)).drew) := by
  subst hC
  refine ⟨_, _, rfl, rfl, ?_, ?_, (((Below.refl _ _).alloc (Nat.le_refl _) _).alloc (by simp) _).drew, Nat.le_refl _, by omega, by omega⟩
  · exact block_kept (below_alloc1 (w.alloc (.cells (tokC t).toArray 82)) (.cells (madeCells #[.int .i64 0] n) 3)) (heap_alloc_new w _)
  · have e : (w.alloc (.cells (tokC t).toArray 82)).heap.size = w.heap.size + 1 := by simp
    rw [← e]
    exact heap_alloc_new _ _

/-- What was read ahead, and what comes. -/
def preV (ns : List Int) : PR (List Int) → PR (List Int)
  | .ok (ms, r) => .ok (ns ++ ms, r)
  | .error e => .error e
theorem preV_nil (x : PR (List Int)) : preV [] x = x := by cases x <;> rfl
theorem preV_preV (ns : List Int) (n : Int) (x : PR (List Int)) : preV ns (preV [n] x) = preV (ns ++ [n]) x := by cases x <;> simp [preV]
theorem valsQ_num {doms : List (List Int)} {v : Int} {ss : List Int} {ts : List Tok} {e : Int × Int} (h : numberQ 1000000 ts = .error e) : valsQ doms (v :: ss) ts = .error e := by rw [valsQ, h]
theorem valsQ_bad {doms : List (List Int)} {v : Int} {ss : List Int} {ts : List Tok} {t : Tok} {r : List Tok} (h : numberQ 1000000 ts = .ok (t, r)) (hn : ¬ t.n ∈ nth [] doms v.toNat) : valsQ doms (v :: ss) ts = .error (t.at_, 6) := by
  rw [valsQ, h]; simp only; rw [if_neg hn]
theorem valsQ_go {doms : List (List Int)} {v : Int} {ss : List Int} {ts : List Tok} {t : Tok} {r : List Tok} (h : numberQ 1000000 ts = .ok (t, r)) (hn : t.n ∈ nth [] doms v.toNat) : valsQ doms (v :: ss) ts = preV [t.n] (valsQ doms ss r) := by
  rw [valsQ, h]; simp only; rw [if_pos hn]
  cases valsQ doms ss r <;> rfl
/-- The row as far as it is read: its first numbers, then zeros. -/
def rowCells (ns : List Int) (n : Nat) : Array Value := (ns.map (Value.int .i64) ++ List.replicate (n - ns.length) (Value.int .i64 0)).toArray
theorem rowCells_nil (n : Nat) : madeCells #[.int .i64 0] n = rowCells [] n := by
  apply Array.ext
  · simp [madeCells, rowCells]
  · intro i h1 h2
    simp [madeCells, rowCells, Nat.mod_one]
theorem rowCells_set (ns : List Int) (n : Nat) (x : Int) (h : ns.length < n) : (rowCells ns n).setIfInBounds ns.length (.int .i64 x) = rowCells (ns ++ [x]) n := by
  unfold rowCells
  apply Array.ext'
  obtain ⟨m, hm⟩ : ∃ m, n - ns.length = m + 1 := ⟨n - ns.length - 1, by omega⟩
  have hm2 : n - (ns ++ [x]).length = m := by simp; omega
  rw [hm, hm2, List.replicate_succ]
  simp [List.set_append_right]
theorem rowCells_at (ns : List Int) (n : Nat) (h : ns.length < n) : (rowCells ns n)[ns.length]? = some (.int .i64 0) := by
  obtain ⟨m, hm⟩ : ∃ m, n - ns.length = m + 1 := ⟨n - ns.length - 1, by omega⟩
  simp [rowCells, hm, List.replicate_succ]
theorem heap_setAt {W : World} {g i : Nat} {cs : Array Value} {t : TypeId} (h : W.heap[g]? = some (.cells cs t (0, 0))) (x : Value) : (W.setCell ⟨g, i, none⟩ x).heap[g]? = some (.cells (cs.setIfInBounds i x) t (0, 0)) := by
  simp [World.setCell, Array.getElem?_modify, h]
theorem rowCells_size (ns : List Int) (n : Nat) (h : ns.length ≤ n) : (rowCells ns n).size = n := by simp [rowCells]; omega
theorem rowCells_sl {W : World} {km n : Nat} {ns : List Int} {t : TypeId} {fr : Nat × Nat} (h : W.heap[km]? = some (.cells (rowCells ns n) t fr)) (hn : ns.length = n) (hl : n ≤ 140737488355328) : Sl (Kd.int .i64) W (fun k => k = km) (.slice (some ⟨km, 0, none⟩) n n) ns := by
  subst hn
  refine ⟨_, _, rfl, Nat.le_refl _, hl, fun j x hx => ⟨km, 0, [.int .i64 x], rfl, rfl, rfl, fun i u hu => ?_⟩⟩
  obtain rfl : i = 0 := by have := (List.getElem?_eq_some_iff.1 hu).1; simpa using this
  simp at hu; subst hu
  refine cell_at h ?_
  show (rowCells ns ns.length)[0 + (j * 1 + 0)]? = _
  rw [Nat.mul_one, Nat.add_zero, Nat.zero_add]
  have hj := (List.getElem?_eq_some_iff.1 hx).1
  simp [rowCells, hx]
/-- The rows with one more, and what is left. -/
def RowOut (g base : Nat) (w w' : World) (okA : Nat → Prop) (dv hv sv va : Value) (e : Ending) (rows : List (List Int)) (r : List Tok) : Prop :=
  ∃ va' ok', e = .returned va' ∧ OwnD kRow 32 base ok' va' rows w' ∧ (∀ k, ok' k → okA k ∨ (w.heap.size ≤ k ∧ k < w'.heap.size)) ∧ PB g w' r dv hv sv ∧ Toks r ∧ (va'.ownBlock = va.ownBlock ∨ ∃ k, va'.ownBlock = some k ∧ w.heap.size ≤ k)
theorem OwnD.rowAt {α : Type} {d : Kd α} {hs : 0 < d.sz} {E : TypeId} {base : Nat} {ok : Nat → Prop} {A : Option Addr} {n c : Nat} {xs : List (List α)} {w : World} (h : OwnD (Kd.slice d hs) E base ok (.slice A n c) xs w) (hl : xs.length ≤ 140737488355328) {j : Nat} (hj : j < xs.length) :
    ∃ b v, A = some ⟨b, 0, none⟩ ∧ w.cell? ⟨b, j, none⟩ = some v ∧ Sl d w (fun _ => True) v (nth [] xs j) := by
  obtain ⟨b, o, v, hA, hc, hsl⟩ := (Sl.elems (h.sl hl)).row hj
  obtain ⟨css, _, h3⟩ := h.open_
  rcases h3.2 with ⟨_, h0⟩ | ⟨g, cap, cur, hv, _⟩
  · omega
  · injection hv with hv _ _
    rw [hA] at hv
    injection hv with hv
    injection hv with _ hv _
    subst hv
    exact ⟨b, v, hA, by rw [Nat.zero_add] at hc; exact hc, hsl.mono fun _ _ => trivial⟩
def RowRel (g : Nat) (w wc : World) (doms : List (List Int)) (dv hv sv : Value) (scope : List Int) (ts : List Tok) (t : Tok) (kt km : Nat) (k : Nat) (v : Value) (wr : World) : Prop :=
  ∃ (i : Nat) (ts' : List Tok) (ns : List Int), k = scope.length - i ∧ i ≤ scope.length ∧ ns.length = i ∧ v = .int .i64 i ∧ valsQ doms scope ts = preV ns (valsQ doms (scope.drop i) ts') ∧ PB g wr ts' dv hv sv ∧ Toks ts' ∧
    wr.heap[kt]? = some (.cells (tokC t).toArray 82 (0, 0)) ∧ wr.heap[km]? = some (.cells (rowCells ns scope.length) 3 (0, 0)) ∧ Chg (fun k => k = g) w wr ∧ wc.heap.size ≤ wr.heap.size

set_option maxRecDepth 100000 in
set_option maxHeartbeats 4000000 in
theorem row_p (g base : Nat) (w : World) (ts : List Tok) (doms : List (List Int)) (DA : Option Addr) (Dc : Nat) (hv sv : Value) (okD okS okA : Nat → Prop) (scope : List Int) (SA : Option Addr) (Sc : Nat) (ahead : List (List Int)) (va : Value)
    (h : PB g w ts (.slice DA doms.length Dc) hv sv) (hT : Toks ts) (hD : Sl kRow w okD (.slice DA doms.length Dc) doms) (hDg : ∀ k, okD k → g < k)
    (hS : Sl (Kd.int .i64) w okS (.slice SA scope.length Sc) scope) (hSg : ∀ k, okS k → g < k) (hs6 : scope.length ≤ 6) (hsr : ∀ v ∈ scope, 0 ≤ v ∧ v < doms.length)
    (hA : OwnD kRow 32 base okA va ahead w) (hgb : g < base) (hbs : base ≤ w.heap.size) (hAk : ∀ k, okA k → g < k ∧ k < w.heap.size) (hal : ahead.length ≤ 1000000) :
    Calls Tryz.prog 103 #[.pointer (some ⟨g, 0, none⟩), .slice SA scope.length Sc, va] w fun e w' => Out (rowQ doms scope ahead ts) (RowOut g base w w' okA (.slice DA doms.length Dc) hv sv va e) e ∧ Chg (fun k => k = g ∨ va.ownBlock = some k) w w' := by
  have hgw := h.lt
  obtain ⟨t, r, rfl⟩ := hT.cons
  obtain ⟨AA, Ac, rfl, hAc, _, _⟩ := hA.sl (by omega)
  have HP := Lib.hid h
  have HT := Lib.hid hT
  have HD := Lib.hid hD
  have HS := Lib.hid hS
  have HA := Lib.hid hA
  obtain ⟨A, n, c, hg, hs⟩ := h
  obtain ⟨b, o, rfl, hb, hn, hnc, hmc, c0, c1, c2, c3⟩ := tok_head hs
  have g0 := cell_at hg (i := 0) rfl
  have hn0 : 0 < n := by omega
  have hTK : Hid (tokC t = [.int .i64 t.kind, .string ⟨t.text.toArray⟩, .int .i64 t.n, .int .i64 t.at_]) := Lib.hid rfl
  generalize (ByteArray.mk t.text.toArray) = tb at c1 hTK
  clear hs hg hn hT hD hS hA
  obtain ⟨i0, hi, hz0, hz1, hz2⟩ := info_parts (show (Tryz.prog.info? 3).map (fun i => (i.zero, i.size, i.bytes)) = some (some (.int .i64 0), 1, 8) by kernel_rfl)
  have hmk : ∀ W : World, (Instr.makeSlice 32 (.int .i64 (scope.length : Int)) (.int .i64 (scope.length : Int))).run Tryz.prog W = .ok (.slice (some ⟨W.heap.size, 0, none⟩) scope.length scope.length) (W.alloc (.cells (madeCells #[.int .i64 0] scope.length) 3)) := fun W => by
    have := run_make_rowN (P := Tryz.prog) 32 3 i0 _ Tryz.underlying32 hi hz0 .i64 .i64 scope.length scope.length (Nat.le_refl _) (by rw [hz2]; omega) (by omega) W
    rw [this, hz1, Nat.mul_one]
    rfl
  clear hi hz0 hz1 hz2
  go_enter Tryz.func103, Tryz.ntmps103
  go_wp2_with fail
  go_upto_region 1 with fail
  go_cut [7, 8] (fun s7 s8 wx => RowHead w t scope.length s7 s8 wx)
  case first =>
    go_region_held3 (fun w' => w'.cell? ⟨g, 0, none⟩ = some (.slice (some ⟨b, o, none⟩) n c) ∧ w'.cell? ⟨b, o, none⟩ = some (.int .i64 t.kind) ∧ w'.cell? ⟨b, o + 1, none⟩ = some (.string tb) ∧ w'.cell? ⟨b, o + 2, none⟩ = some (.int .i64 t.n) ∧ w'.cell? ⟨b, o + 3, none⟩ = some (.int .i64 t.at_)) (go_keep) (fail)
    all_goals
      go_wp2_with fail
      go_meet
      first
        | exact row_head _ _ _ (by rw [hTK.out])
        | exact row_head' _ _ _ (by rw [hTK.out])
  case rest =>
    obtain ⟨kt, km, rfl, rfl, hkt, hkm, hbw, hlt, hlm, hne⟩ := hcut
    have HKT := Lib.hid hkt
    have HKM := Lib.hid hkm
    have HB := Lib.hid hbw
    have hsz := hbw.size
    clear hkt hkm hbw hTK c0 c1 c2 c3 g0 hmk
    go_wp2
    go_loopg [23] scope.length (fun k v wr => RowRel g w wc doms (.slice DA doms.length Dc) hv sv scope (t :: r) t kt km k v wr)
    case atStart => exact ⟨0, t :: r, [], by omega, by omega, rfl, rfl, (preV_nil _).symm, HP.out.grown (below_grown0 HB.out none) (by simp), HT.out, HKT.out, by rw [HKM.out, rowCells_nil], chg_of_below HB.out _, Nat.le_refl _⟩
    case round =>
      clear HKT HKM HP HT
      obtain ⟨i, ts2, ns, hk, hil, hns, rfl, hq, hp, hT2, hkt, hkm, hch, hszr⟩ := hrel
      obtain ⟨t2, r2, rfl⟩ := hT2.cons
      have HK := Lib.hid hk
      have HQ := Lib.hid hq
      have HP := Lib.hid hp
      have HT := Lib.hid hT2
      have HKT := Lib.hid hkt
      have HKM := Lib.hid hkm
      have HG := Lib.hid hch
      have HN := Lib.hid hns
      clear hk hq hp hT2 hkt hkm hch hns
      by_cases hlt : i < scope.length
      · obtain ⟨hq0, hq1⟩ := hsr (nth 0 scope i) (List.mem_of_getElem? (nth_get 0 scope i hlt))
        obtain ⟨q, hq⟩ : ∃ q : Nat, nth 0 scope i = q := ⟨(nth 0 scope i).toNat, by omega⟩
        obtain ⟨sb, so, rfl, hsc⟩ := (Sl.elems (HS.out.chg (by decide) HG.out (fun k hk e => by have := hSg k hk; omega))).num hlt
        rw [hq] at hsc hq0 hq1
        have hqd : q < doms.length := by omega
        have hdrop : valsQ doms (scope.drop i) (t2 :: r2) = valsQ doms ((q : Int) :: scope.drop (i + 1)) (t2 :: r2) := by rw [drop_cons scope 0 i hlt, hq]
        have hq2 := HQ.out.trans (congrArg (preV ns) hdrop)
        clear hdrop HQ hq hq0 hq1
        have hn := Lib.hid (number_p g wr t2 r2 _ _ _ 1000000 (by decide) (by decide) HP.out)
        by_cases hk : (t2.kind == 2) = true
        · by_cases hsm : smallB t2.n 1000000 = true
          · have hnq : numberQ 1000000 (t2 :: r2) = .ok (t2, r2) := by simp [numberQ, hk, hsm]
            simp only [hk, hsm, if_true] at hn
            have hTK : Hid (tokC t2 = [.int .i64 t2.kind, .string ⟨t2.text.toArray⟩, .int .i64 t2.n, .int .i64 t2.at_]) := Lib.hid rfl
            generalize (ByteArray.mk t2.text.toArray) = tb2 at hTK
            have HT2 := Lib.hid (HT.out.tail (fun h => by simp [h] at hk))
            clear hk hsm
            go_wp2_with (go_at_call 100; refine hn.out.mono ?_; rintro e W2 ⟨⟨rfl, hp2⟩, hg2⟩; (have HG2 := Lib.hid ((HG.out.trans (chg_g hg2 (fun k => k = g) rfl) (fun _ _ h => h)).alloc (.cells #[.int .i64 t2.kind, .string tb2, .int .i64 t2.n, .int .i64 t2.at_] 82)).drew); (have HP2 := Lib.hid (hp2.alloc (.cells #[.int .i64 t2.kind, .string tb2, .int .i64 t2.n, .int .i64 t2.at_] 82)).drew); (have HC2 := Lib.hid (((chg_g hg2 (fun k => k = g) rfl).alloc (.cells #[.int .i64 t2.kind, .string tb2, .int .i64 t2.n, .int .i64 t2.at_] 82)).drew)); clear hp2 hg2; rw [hTK.out])
            have HX2 := Lib.hid (block_kept (Below.drew (Below.refl _ _)) (heap_alloc_new W2 (.cells #[.int .i64 t2.kind, .string tb2, .int .i64 t2.n, .int .i64 t2.at_] 82)))
            have HKT2 := Lib.hid (HC2.out.heap HKT.out (fun e => by omega))
            have HKM2 := Lib.hid (HC2.out.heap HKM.out (fun e => by omega))
            have hsz2 := HC2.out.size
            clear HKT HKM HC2 hn
            refine wp_region_still_tail 12 (by kernel_rfl) (by kernel_rfl) ?_
            change wpStill _ _ (World.drew (W2.alloc (.cells #[.int .i64 t2.kind, .string tb2, .int .i64 t2.n, .int .i64 t2.at_] 82))) (fun a' => wpList _ _ _ _ a' (World.drew (W2.alloc (.cells #[.int .i64 t2.kind, .string tb2, .int .i64 t2.n, .int .i64 t2.at_] 82)))) _ _
            generalize World.drew (W2.alloc (.cells #[.int .i64 t2.kind, .string tb2, .int .i64 t2.n, .int .i64 t2.at_] 82)) = W at *
            generalize W2.heap.size = k2 at *
            have hdr := HD.out.chg (by decide) HG2.out (fun k hk e => by have := hDg k hk; omega)
            obtain ⟨db, dof, dv, rfl, hdc, hds⟩ := (Sl.elems hdr).row hqd
            have hct := calls_turn (contains_any dv (nth [] doms q) t2.n okD W hds)
            obtain ⟨dA, dc, rfl, _, _, _⟩ := hds
            have HCT := Lib.hid hct
            obtain ⟨A', n', c', hgb2, _⟩ := HP2.out
            have g1 := cell_at hgb2 (i := 1) rfl
            have d0 := cell_at HX2.out (i := 0) rfl
            have d1 := cell_at HX2.out (i := 1) rfl
            have d2 := cell_at HX2.out (i := 2) rfl
            have d3 := cell_at HX2.out (i := 3) rfl
            clear hgb2 hdr hct
            simp only [List.take_succ_cons, List.take_zero, List.drop_succ_cons, List.drop_zero]
            repeat (first | (refine still_plain rfl (fun K hK => ?_); go_simp; refine hK _ ?_; clear hK K) | (refine still_off _ _ _ _ _ rfl rfl rfl rfl rfl (fun K hK => ?_); go_simp; refine hK _ ?_; clear hK K) | (refine still_on _ _ _ _ rfl rfl rfl rfl (fun K hK => ?_); go_simp; refine hK _ ?_; clear hK K) | (refine still_dead _ _ _ _ rfl rfl rfl rfl (fun K hK => ?_); go_simp; refine hK _ ?_; clear hK K))
            ((first | refine still_plain rfl (fun K hK => ?_) | refine still_on _ _ _ _ rfl rfl rfl rfl (fun K hK => ?_)); go_simp; refine ⟨_, HCT.out, hK _ ?_⟩; clear hK K)
            repeat (first | (refine still_plain rfl (fun K hK => ?_); go_simp; refine hK _ ?_; clear hK K) | (refine still_off _ _ _ _ _ rfl rfl rfl rfl rfl (fun K hK => ?_); go_simp; refine hK _ ?_; clear hK K) | (refine still_on _ _ _ _ rfl rfl rfl rfl (fun K hK => ?_); go_simp; refine hK _ ?_; clear hK K) | (refine still_dead _ _ _ _ rfl rfl rfl rfl (fun K hK => ?_); go_simp; refine hK _ ?_; clear hK K))
            refine wpStill_nil ?_
            by_cases hmem : t2.n ∈ nth [] doms q
            · have HR : Hid (valsQ doms scope (t :: r) = preV (ns ++ [t2.n]) (valsQ doms (scope.drop (i + 1)) r2)) := Lib.hid (by rw [hq2, valsQ_go hnq (by simpa using hmem), preV_preV])
              have hdb : decide (t2.n ∈ nth [] doms q) = true := by simpa using hmem
              clear hq2 hnq
              go_wp2_with (go_at_call 67; refine (must_yes _ _ _ _ _ _ _ (by first | rfl | exact hdb)).mono ?_; rintro e W5 ⟨rfl, hb5⟩; (have HX5 := Lib.hid (block_kept hb5 HX2.out)); (have HKM5 := Lib.hid (block_kept hb5 HKM2.out)); (have HKT5 := Lib.hid (block_kept hb5 HKT2.out)); (have HG5 := Lib.hid (HG2.out.thenBelow hb5)); (have HP5 := Lib.hid (HP2.out.grown (below_grown0 hb5 none) (by simp))); (have e2 := cell_at HX5.out (i := 2) rfl); (have e3 := cell_at HKM5.out (i := i) (u := .int .i64 0) (by rw [← HN.out]; exact rowCells_at ns scope.length (by have := HN.out; omega))); (have e4 := Lib.frozen_of_heap HKM5.out i); (have hwc5 : wc.heap.size ≤ W5.heap.size := by have := hb5.size; omega); clear hb5 d0 d1 d2 d3 HX2 HG2 HP2 HKM2 HKT2)
              go_roundg (scope.length - (i + 1))
              case rel => exact ⟨i + 1, r2, ns ++ [t2.n], rfl, by omega, by simp; exact HN.out, by go_num, HR.out, HP5.out.chg (chg_setCell W5 km i _) (fun k hk e => by omega), HT2.out, (chg_setCell W5 km i _).heap HKT5.out (fun e => by omega),
                by rw [heap_setAt HKM5.out, ← rowCells_set ns scope.length t2.n (by have := HN.out; omega), HN.out], HG5.out.trans (chg_setCell W5 km i _) (fun j hj e => by omega), by rw [Go.Deep.nblk_setCell]; exact hwc5⟩
              case measure => have := HK.out; omega
            · have HR : Hid (rowQ doms scope ahead (t :: r) = .error (t2.at_, 6)) := Lib.hid (by rw [rowQ, hq2, valsQ_bad hnq (by simpa using hmem)]; rfl)
              have hdb : decide (t2.n ∈ nth [] doms q) = false := by simpa using hmem
              clear hq2 hnq
              go_wp2_with (go_at_call 67; refine (must_no _ _ _ _ _ _ _ (by first | rfl | exact hdb)).mono ?_; rintro e W5 ⟨rfl, hb5⟩; refine ⟨rfl, ?_⟩; rw [HR.out]; exact ⟨rfl, (HG2.out.thenBelow hb5).mono (fun _ _ h => Or.inl h)⟩)
          · have hsm := Bool.eq_false_iff.2 hsm
            have hnq : numberQ 1000000 (t2 :: r2) = .error (t2.at_, 4) := by simp [numberQ, hk, hsm]
            have HR : Hid (rowQ doms scope ahead (t :: r) = .error (t2.at_, 4)) := Lib.hid (by rw [rowQ, hq2, valsQ_num hnq]; rfl)
            simp only [hk, hsm, Bool.false_eq_true, if_false, if_true] at hn
            clear hq2 hnq hk hsm
            go_wp2_with (go_at_call 100; refine hn.out.mono ?_; rintro e W2 ⟨rfl, hg2⟩; refine ⟨rfl, ?_⟩; rw [HR.out]; exact ⟨rfl, (HG.out.trans (chg_g hg2 (fun k => k = g) rfl) (fun _ _ h => h)).mono (fun _ _ h => Or.inl h)⟩)
        · have hk := Bool.eq_false_iff.2 hk
          have hnq : numberQ 1000000 (t2 :: r2) = .error (t2.at_, 3) := by simp [numberQ, hk]
          have HR : Hid (rowQ doms scope ahead (t :: r) = .error (t2.at_, 3)) := Lib.hid (by rw [rowQ, hq2, valsQ_num hnq]; rfl)
          simp only [hk, Bool.false_eq_true, if_false] at hn
          clear hq2 hnq hk
          go_wp2_with (go_at_call 100; refine hn.out.mono ?_; rintro e W2 ⟨rfl, hg2⟩; refine ⟨rfl, ?_⟩; rw [HR.out]; exact ⟨rfl, (HG.out.trans (chg_g hg2 (fun k => k = g) rfl) (fun _ _ h => h)).mono (fun _ _ h => Or.inl h)⟩)
      · have hie : i = scope.length := by omega
        have hq2 : valsQ doms scope (t :: r) = .ok (ns, t2 :: r2) := by rw [HQ.out, hie, List.drop_length]; simp [valsQ, preV]
        have hR : rowQ doms scope ahead (t :: r) = if ahead.length = 0 ∨ cmpL (nth [] ahead (ahead.length - 1)) ns < 0 then .ok (ahead ++ [ns], t2 :: r2) else .error (t.at_, 6) := by
          rw [rowQ, hq2]
          rfl
        have HN2 : Hid (ns.length = scope.length) := Lib.hid (by rw [HN.out, hie])
        clear HQ hq2 HN hie
        have HTK : Hid (tokC t = [.int .i64 t.kind, .string ⟨t.text.toArray⟩, .int .i64 t.n, .int .i64 t.at_]) := Lib.hid rfl
        obtain ⟨iR, hiR, hR0, hR1, hR2⟩ := info_parts (show (Tryz.prog.info? 32).map (fun i => (i.zero, i.size, i.bytes)) = some (some (.slice none 0 0), 1, 24) by kernel_rfl)
        have HG2 := Lib.hid HG.out.drew
        have HP2 := Lib.hid HP.out.drew
        have hkt2 : (World.drew wr).heap[kt]? = _ := HKT.out
        have HKM2 : Hid ((World.drew wr).heap[km]? = _) := HKM
        have HA2 := Lib.hid (HA.out.chg HG2.out (fun k hk e => by have := hAk k hk; omega) (fun k hk e => by have := HA.out.own k hk; omega))
        rw [HTK.out] at hkt2
        generalize (ByteArray.mk t.text.toArray) = tb2 at hkt2
        have d0 := cell_at hkt2 (i := 0) rfl
        have d1 := cell_at hkt2 (i := 1) rfl
        have d2 := cell_at hkt2 (i := 2) rfl
        have d3 := cell_at hkt2 (i := 3) rfl
        have hkmw := lt_of_block HKM.out
        go_wp2_with fail
        refine wp_region_still_tail 15 (by kernel_rfl) (by kernel_rfl) ?_
        change wpStill _ _ (World.drew wr) (fun a' => wpList _ _ _ _ a' (World.drew wr)) _ _
        have hkmw2 : km < (World.drew wr).heap.size := hkmw
        clear HG HP HKT HKM hkt2 hkmw HTK
        generalize World.drew wr = W at *
        simp only [List.take_succ_cons, List.take_zero, List.drop_succ_cons, List.drop_zero]
        by_cases h0 : ahead.length = 0
        · obtain rfl : ahead = [] := List.eq_nil_of_length_eq_zero h0
          have HR : Hid (rowQ doms scope [] (t :: r) = .ok ([] ++ [ns], t2 :: r2)) := Lib.hid (by rw [hR, if_pos (.inl rfl)])
          have hdb : True := trivial
          clear hR h0
          repeat (first | (refine still_plain rfl (fun K hK => ?_); go_simp; refine hK _ ?_; clear hK K) | (refine still_off _ _ _ _ _ rfl rfl rfl rfl rfl (fun K hK => ?_); go_simp; refine hK _ ?_; clear hK K) | (refine still_on _ _ _ _ rfl rfl rfl rfl (fun K hK => ?_); go_simp; refine hK _ ?_; clear hK K) | (refine still_dead _ _ _ _ rfl rfl rfl rfl (fun K hK => ?_); go_simp; refine hK _ ?_; clear hK K))
          refine wpStill_nil ?_
          go_wp2_with (first
            | (go_at_call 67; refine (must_yes _ _ _ _ _ _ _ (by first | rfl | exact hdb)).mono ?_; rintro e W5 ⟨rfl, hb5⟩; (have HKM5 := Lib.hid (block_kept (below_alloc1 W5 (.cells #[.slice (some ⟨km, 0, none⟩) scope.length scope.length] 32)) (block_kept hb5 HKM2.out))); (have HG5 := Lib.hid ((HG2.out.thenBelow hb5).alloc (.cells #[.slice (some ⟨km, 0, none⟩) scope.length scope.length] 32))); (have HP5 := Lib.hid ((HP2.out.grown (below_grown0 hb5 none) (by simp)).alloc (.cells #[.slice (some ⟨km, 0, none⟩) scope.length scope.length] 32))); (have ho5 := (((HA2.out.chg (chg_of_below hb5 (fun _ => False)) (fun _ _ h => h.elim) (fun _ _ h => h.elim)).chg (Chg.alloc0 W5 (.cells #[.slice (some ⟨km, 0, none⟩) scope.length scope.length] 32) (fun _ => False)) (fun _ _ h => h.elim) (fun _ _ h => h.elim)).mono (ok' := fun k => okA k ∨ k = km) (fun _ h => Or.inl h) (fun k hk h => by have h1 := HA.out.own k hk; rcases h with h | h; exact h1.2.2 h; omega))); obtain ⟨css, hc1, hc2⟩ := ho5.open_; (have HC1 := Lib.hid hc1); (have HC2 := Lib.hid hc2); (have hws5 : w.heap.size ≤ W5.heap.size := by have := HG5.out.size; have := hb5.size; omega); (have hkm5 : km < W5.heap.size := by have := hb5.size; omega); clear hb5 d0 d1 d2 d3 HG2 HP2 HKM2 HA2 ho5 hc1 hc2)
            | (at_builtin; refine wpList_append_lies _ rfl _ _ 26 rfl base 32 iR _ 1 24 Tryz.underlying26 hiR hR0 hR1 hR2 rfl (by decide) _ ([] : List (List Int)).length css.flatten rfl HC2.out ⟨_, 0, none⟩ 1 1 [.slice (some ⟨km, 0, none⟩) scope.length scope.length] rfl rfl (World.news_of_block (cs := #[.slice (some ⟨km, 0, none⟩) scope.length scope.length]) (t := 32) (fr := (0, 0)) (heap_alloc_new W5 _)) (by simp [Value.oneCell']) (by decide) (by (try simp only [maxLen]); (try simp); try omega) (by (try simp); try omega) (by simp; omega) (W5.heap.size + 1) (by simp) ?_))
          intro kb cap w2 hown' hgrow hat hlt
          have HX := Lib.hid (OwnD.snoc (x := ns) HC1.out.1 HC1.out.2.1 HC1.out.2.2 ⟨_, rfl, (rowCells_sl HKM5.out HN2.out (by omega)).mono (fun _ h => Or.inr h)⟩ hgrow hown' (hat_of hat (by simp)) (fun k hk => by simp; rcases hk with hk | hk; have := hAk k hk; omega; omega))
          have HG6 := Lib.hid ((HG5.out.mono (fun j _ h => (Or.inl h : j = g ∨ (Value.slice AA ([] : List (List Int)).length Ac).ownBlock = some j))).trans (chg_of_grown hgrow) (fun j hj hs => Or.inr hs))
          have HP6 := Lib.hid (HP5.out.grown hgrow (fun k hk => by have := (HC2.out.lt k hk).1; omega))
          have hs6' : W5.heap.size < w2.heap.size := by have := hgrow.size; simp at this; omega
          clear hown' hgrow
          go_wp2
          go_ret
          refine ⟨?_, HG6.out⟩
          rw [HR.out]
          refine ⟨_, _, rfl, HX.out, fun k hk => ?_, HP6.out, HT.out, ?_⟩
          · rcases hk with hk | hk
            · exact Or.inl hk
            · exact Or.inr ⟨by omega, by omega⟩
          · rcases hat with h | h
            · exact Or.inl h.symm
            · exact Or.inr ⟨kb, rfl, by omega⟩
        · have hb0 : ((ahead.length : Int) == 0) = false := beq_eq_false_iff_ne.2 (by omega)
          have h3p : 0 < ahead.length := by omega
          have w1 : IntKind.i64.wrap ((ahead.length : Int) - 1) = (ahead.length : Int) - 1 := IntWalk.i64_in _ (by omega)
          have w2 : ((ahead.length : Int) - 1).toNat = ahead.length - 1 := by omega
          have w3 : (0 : Int) ≤ (ahead.length : Int) - 1 := by omega
          have w5 : (1 : Int) ≤ (ahead.length : Int) := by omega
          have w4 : (ahead.length : Int) - 1 < (ahead.length : Int) := by omega
          obtain ⟨ab, lv, rfl, hlc, hls⟩ := HA2.out.rowAt (by omega) (j := ahead.length - 1) (by omega)
          have HCT := Lib.hid (calls_turn (tcompare_any _ _ _ _ _ W hls ((rowCells_sl HKM2.out HN2.out (by omega)).mono (fun _ _ => trivial))))
          obtain ⟨lA, lc, rfl, _, _, _⟩ := hls
          by_cases hcm : cmpL (nth [] ahead (ahead.length - 1)) ns < 0
          · have HR : Hid (rowQ doms scope ahead (t :: r) = .ok (ahead ++ [ns], t2 :: r2)) := Lib.hid (by rw [hR, if_pos (.inr hcm)])
            have hdb : decide (cmpL (nth [] ahead (ahead.length - 1)) ns < 0) = true := by simpa using hcm
            clear hR h0
            repeat (first | (refine still_plain rfl (fun K hK => ?_); go_simp; refine hK _ ?_; clear hK K) | (refine still_off _ _ _ _ _ rfl rfl rfl rfl rfl (fun K hK => ?_); go_simp; refine hK _ ?_; clear hK K) | (refine still_on _ _ _ _ rfl rfl rfl rfl (fun K hK => ?_); go_simp; refine hK _ ?_; clear hK K) | (refine still_dead _ _ _ _ rfl rfl rfl rfl (fun K hK => ?_); go_simp; refine hK _ ?_; clear hK K))
            ((first | refine still_plain rfl (fun K hK => ?_) | refine still_on _ _ _ _ rfl rfl rfl rfl (fun K hK => ?_)); go_simp; refine ⟨_, HCT.out, hK _ ?_⟩; clear hK K)
            repeat (first | (refine still_plain rfl (fun K hK => ?_); go_simp; refine hK _ ?_; clear hK K) | (refine still_off _ _ _ _ _ rfl rfl rfl rfl rfl (fun K hK => ?_); go_simp; refine hK _ ?_; clear hK K) | (refine still_on _ _ _ _ rfl rfl rfl rfl (fun K hK => ?_); go_simp; refine hK _ ?_; clear hK K) | (refine still_dead _ _ _ _ rfl rfl rfl rfl (fun K hK => ?_); go_simp; refine hK _ ?_; clear hK K))
            refine wpStill_nil ?_
            go_wp2_with (first
              | (go_at_call 67; refine (must_yes _ _ _ _ _ _ _ (by first | rfl | exact hdb)).mono ?_; rintro e W5 ⟨rfl, hb5⟩; (have HKM5 := Lib.hid (block_kept (below_alloc1 W5 (.cells #[.slice (some ⟨km, 0, none⟩) scope.length scope.length] 32)) (block_kept hb5 HKM2.out))); (have HG5 := Lib.hid ((HG2.out.thenBelow hb5).alloc (.cells #[.slice (some ⟨km, 0, none⟩) scope.length scope.length] 32))); (have HP5 := Lib.hid ((HP2.out.grown (below_grown0 hb5 none) (by simp)).alloc (.cells #[.slice (some ⟨km, 0, none⟩) scope.length scope.length] 32))); (have ho5 := (((HA2.out.chg (chg_of_below hb5 (fun _ => False)) (fun _ _ h => h.elim) (fun _ _ h => h.elim)).chg (Chg.alloc0 W5 (.cells #[.slice (some ⟨km, 0, none⟩) scope.length scope.length] 32) (fun _ => False)) (fun _ _ h => h.elim) (fun _ _ h => h.elim)).mono (ok' := fun k => okA k ∨ k = km) (fun _ h => Or.inl h) (fun k hk h => by have h1 := HA.out.own k hk; rcases h with h | h; exact h1.2.2 h; omega))); obtain ⟨css, hc1, hc2⟩ := ho5.open_; (have HC1 := Lib.hid hc1); (have HC2 := Lib.hid hc2); (have hws5 : w.heap.size ≤ W5.heap.size := by have := HG5.out.size; have := hb5.size; omega); (have hkm5 : km < W5.heap.size := by have := hb5.size; omega); clear hb5 d0 d1 d2 d3 HG2 HP2 HKM2 HA2 ho5 hc1 hc2)
              | (at_builtin; refine wpList_append_lies _ rfl _ _ 26 rfl base 32 iR _ 1 24 Tryz.underlying26 hiR hR0 hR1 hR2 rfl (by decide) _ ahead.length css.flatten rfl HC2.out ⟨_, 0, none⟩ 1 1 [.slice (some ⟨km, 0, none⟩) scope.length scope.length] rfl rfl (World.news_of_block (cs := #[.slice (some ⟨km, 0, none⟩) scope.length scope.length]) (t := 32) (fr := (0, 0)) (heap_alloc_new W5 _)) (by simp [Value.oneCell']) (by decide) (by (try simp only [maxLen]); (try simp); try omega) (by (try simp); try omega) (by simp; omega) (W5.heap.size + 1) (by simp) ?_))
            intro kb cap w2 hown' hgrow hat hlt
            have HX := Lib.hid (OwnD.snoc (x := ns) HC1.out.1 HC1.out.2.1 HC1.out.2.2 ⟨_, rfl, (rowCells_sl HKM5.out HN2.out (by omega)).mono (fun _ h => Or.inr h)⟩ hgrow hown' (hat_of hat (by simp)) (fun k hk => by simp; rcases hk with hk | hk; have := hAk k hk; omega; omega))
            have HG6 := Lib.hid ((HG5.out.mono (fun j _ h => (Or.inl h : j = g ∨ (Value.slice (some ⟨ab, 0, none⟩) ahead.length Ac).ownBlock = some j))).trans (chg_of_grown hgrow) (fun j hj hs => Or.inr hs))
            have HP6 := Lib.hid (HP5.out.grown hgrow (fun k hk => by have := (HC2.out.lt k hk).1; omega))
            have hs6' : W5.heap.size < w2.heap.size := by have := hgrow.size; simp at this; omega
            clear hown' hgrow
            go_wp2
            go_ret
            refine ⟨?_, HG6.out⟩
            rw [HR.out]
            refine ⟨_, _, rfl, HX.out, fun k hk => ?_, HP6.out, HT.out, ?_⟩
            · rcases hk with hk | hk
              · exact Or.inl hk
              · exact Or.inr ⟨by omega, by omega⟩
            · rcases hat with h | h
              · exact Or.inl h.symm
              · exact Or.inr ⟨kb, rfl, by omega⟩
          · have HR : Hid (rowQ doms scope ahead (t :: r) = .error (t.at_, 6)) := Lib.hid (by rw [hR, if_neg (by omega)])
            have hdb : decide (cmpL (nth [] ahead (ahead.length - 1)) ns < 0) = false := by simpa using hcm
            clear hR h0
            repeat (first | (refine still_plain rfl (fun K hK => ?_); go_simp; refine hK _ ?_; clear hK K) | (refine still_off _ _ _ _ _ rfl rfl rfl rfl rfl (fun K hK => ?_); go_simp; refine hK _ ?_; clear hK K) | (refine still_on _ _ _ _ rfl rfl rfl rfl (fun K hK => ?_); go_simp; refine hK _ ?_; clear hK K) | (refine still_dead _ _ _ _ rfl rfl rfl rfl (fun K hK => ?_); go_simp; refine hK _ ?_; clear hK K))
            ((first | refine still_plain rfl (fun K hK => ?_) | refine still_on _ _ _ _ rfl rfl rfl rfl (fun K hK => ?_)); go_simp; refine ⟨_, HCT.out, hK _ ?_⟩; clear hK K)
            repeat (first | (refine still_plain rfl (fun K hK => ?_); go_simp; refine hK _ ?_; clear hK K) | (refine still_off _ _ _ _ _ rfl rfl rfl rfl rfl (fun K hK => ?_); go_simp; refine hK _ ?_; clear hK K) | (refine still_on _ _ _ _ rfl rfl rfl rfl (fun K hK => ?_); go_simp; refine hK _ ?_; clear hK K) | (refine still_dead _ _ _ _ rfl rfl rfl rfl (fun K hK => ?_); go_simp; refine hK _ ?_; clear hK K))
            refine wpStill_nil ?_
            go_wp2_with (go_at_call 67; refine (must_no _ _ _ _ _ _ _ (by first | rfl | exact hdb)).mono ?_; rintro e W5 ⟨rfl, hb5⟩; refine ⟨rfl, ?_⟩; rw [HR.out]; exact ⟨rfl, (HG2.out.thenBelow hb5).mono (fun _ _ h => Or.inl h)⟩)
end Go.Proofs.YtgpgmmkkmoecmaaGreatDoor

/- Regions that draw their order, walked in one order, calls and writes among them: what is read is the same in every world that meets S. Plain lemmas over the model; no program. -/
namespace Go.Proofs.YtgpgmmkkmoecmaaGreatDoor
open Go.RowKit

section
variable {P : Program} {ops : Array Oper} {Q : Exit → Act → World → Prop} {S : World → Prop}

/-- Behind operation j S is to be shown: it is marked, or some marked one may come behind it. -/
def mustB (ops : Array Oper) (ms : List Bool) (j : Nat) : Bool := ms.getD j false || !((List.range ops.size).all fun i => !(ms.getD i false) || Region.waitsFor .any ops j i)
/-- Whatever order is picked; S behind those that 'must' names. -/
def wpM (P : Program) (ops : Array Oper) (Q : Exit → Act → World → Prop) (S : World → Prop) (must : Nat → Bool) : Nat → Array Bool → Act → World → Prop
  | 0, listed, a, w => Region.ready .any ops listed = [] ∧ Q .normal a w
  | f + 1, listed, a, w => (Region.ready .any ops listed = [] → Q .normal a w) ∧
      ∀ i ∈ Region.ready .any ops listed, wpOp P ops Q i (fun a' w' => (must i = true → S w') ∧ wpM P ops Q S must f (listed.setIfInBounds i true) a' w') a w
theorem wpAny_of_M {must : Nat → Bool} : ∀ (f : Nat) (listed : Array Bool) (a : Act) (w : World), wpM P ops Q S must f listed a w → wpAny P .any ops Q f listed a w
  | 0, _, _, _, h => h
  | f + 1, _, _, _, h => ⟨h.1, fun i hi => wpOp_mono (fun a' w' h' => wpAny_of_M f _ a' w' h'.2) (h.2 i hi)⟩
theorem not_waits {i j : Nat} {oj : Oper} {listed : Array Bool} (hi : listed.getD i true = false) (_ : ops[j]? = some oj) (hall : ∀ e ∈ oj.after, Region.binds .any e = true → listed.getD e.on false = true) : ∀ e ∈ oj.after, Region.binds .any e = true → e.on ≠ i := by
  intro e he hb heq
  have h1 := hall e he hb
  rw [heq, getD_both hi] at h1
  cases h1
theorem wpM_first {must : Nat → Bool} {i : Nat} {oi : Oper} {v : Value} (hi : ops[i]? = some oi) (hsel : ∀ (j : Nat) (o : Oper) cs b, ops[j]? = some o → o.op ≠ .select cs b)
    (hQ : ∀ c a w, Q (.panic c) (a.put oi.dst v) w → Q (.panic c) a w) (hm : ∀ j, must j = true ∨ Region.waitsFor .any ops j i = true) :
    ∀ (f : Nat) (listed : Array Bool) (a : Act) (w : World),
      (∀ j oj, ops[j]? = some oj → j ≠ i → listed.getD j true = false → (∀ e ∈ oj.after, Region.binds .any e = true → e.on ≠ i) → oi.apart ops oj = true) →
      i ∈ Region.ready .any ops listed → YieldsIf P ops S oi v a → S w →
      wpM P ops Q S must f (listed.setIfInBounds i true) (a.put oi.dst v) w → wpM P ops Q S must (f + 1) listed a w := by
  intro f
  induction f with
  | zero =>
    intro listed a w _ hr hy hS H
    refine ⟨fun h => (by rw [h] at hr; cases hr), fun j hj => ?_⟩
    by_cases hji : j = i
    · subst hji; exact hy.wpOp hi hS ⟨fun _ => hS, H⟩
    · have := ready_mono hj hji
      rw [H.1] at this
      cases this
  | succ f ih =>
    intro listed a w hfree hr hy hS H
    refine ⟨fun h => (by rw [h] at hr; cases hr), fun j hj => ?_⟩
    by_cases hji : j = i
    · subst hji; exact hy.wpOp hi hS ⟨fun _ => hS, H⟩
    · have h1 := H.2 j (ready_mono hj hji)
      obtain ⟨hjun, oj, hoj, hall⟩ := mem_ready.1 hj
      have hnot := not_waits (mem_ready.1 hr).1 hoj hall
      have hmj : must j = true := by
        rcases hm j with h | h
        · exact h
        · obtain ⟨oj', hoj', e, he, hb, hon⟩ := Region.waitsFor_spec h
          obtain rfl : oj' = oj := Option.some.inj (hoj'.symm.trans hoj)
          exact absurd hon (hnot e he hb)
      have h2 := wpOp_putIf hoj (hfree j oj hoj hji hjun hnot) (fun cs b => hsel i oi cs b hi) (fun cs b => hsel j oj cs b hoj) hQ hy h1
      refine wpOp_mono (fun a' w' h3 => ⟨h3.2.1, ih (listed.setIfInBounds j true) a' w' (fun k ok hk hki hun hno => ?_) (ready_mono hr (Ne.symm hji)) h3.1 (h3.2.1 hmj) ?_⟩) h2
      · refine hfree k ok hk hki ?_ hno
        by_cases hjk : j = k
        · subst hjk; exact hjun
        · rw [getD_set_ne true hjk] at hun; exact hun
      · rw [Array.setIfInBounds_comm _ _ hji]
        exact h3.2.2

/-- The order of the text serves: each marked operation may be taken first, each other stands alone. -/
def lexMB (ops : Array Oper) : List Bool → Nat → Array Bool → Bool
  | [], _, listed => (Region.ready .any ops listed).isEmpty
  | b :: m, k, listed => (if b then (Region.ready .any ops listed).contains k && Region.free .any ops listed k else decide (Region.ready .any ops listed = [k])) && lexMB ops m (k + 1) (listed.setIfInBounds k true)
def wpLex (P : Program) (ops : Array Oper) (Q : Exit → Act → World → Prop) (S : World → Prop) (ms : List Bool) : Nat → List Bool → List Oper → Act → World → Prop
  | k, true :: m, o :: rest, a, w => S w ∧ ∃ v, YieldsIf P ops S o v a ∧ wpLex P ops Q S ms (k + 1) m rest (a.put o.dst v) w
  | k, false :: m, o :: rest, a, w =>
    if Region.wanted o (yielded ops a.tmps) then o.wp P a w (fun a' w' => (mustB ops ms k = true → S w') ∧ wpLex P ops Q S ms (k + 1) m rest a' w') Q ∨ (o.asks P a w ∧ LetsOut Q)
    else (mustB ops ms k = true → S w) ∧ wpLex P ops Q S ms (k + 1) m rest (a.put o.dst undef) w
  | _, _, [], a, w => Q .normal a w
  | _, [], _ :: _, _, _ => False
theorem wpM_lex {ms : List Bool} (hsel : Region.noSelect ops = true) (hQ : ∀ c (a : Act) d v w, Q (.panic c) (a.put d v) w → Q (.panic c) a w) :
    ∀ (m : List Bool) (l : List Oper) (k : Nat) (listed : Array Bool) (a : Act) (w : World), (∀ j, l[j]? = ops[k + j]?) → (∀ j, m[j]? = ms[k + j]?) → m.length = l.length → lexMB ops m k listed = true → wpLex P ops Q S ms k m l a w →
      wpM P ops Q S (mustB ops ms) l.length listed a w
  | [], [], k, listed, a, w, _, _, _, hB, h => ⟨by simpa [lexMB] using hB, h⟩
  | [], _ :: _, _, _, _, _, _, _, hl, _, _ => by simp at hl
  | _ :: _, [], _, _, _, _, _, _, hl, _, _ => by simp at hl
  | b :: m, o :: l, k, listed, a, w, hops, hms, hl, hB, h => by
    have h0 : ops[k]? = some o := by simpa using (hops 0).symm
    have hops' : ∀ j, l[j]? = ops[k + 1 + j]? := fun j => by have := hops (j + 1); simpa [Nat.add_assoc, Nat.add_comm 1 j] using this
    have hms' : ∀ j, m[j]? = ms[k + 1 + j]? := fun j => by have := hms (j + 1); simpa [Nat.add_assoc, Nat.add_comm 1 j] using this
    have hl' : m.length = l.length := by simpa using hl
    simp only [lexMB, Bool.and_eq_true] at hB
    obtain ⟨hb, hB'⟩ := hB
    cases b with
    | true =>
      simp only [if_true, Bool.and_eq_true] at hb
      obtain ⟨hS, v, hy, hr⟩ := h
      refine wpM_first h0 (Region.noSelect_spec hsel) (fun c a w => hQ c a o.dst v w) (fun j => ?_) l.length listed a w (Region.free_spec h0 hb.2) (by simpa using hb.1) hy hS (wpM_lex hsel hQ m l (k + 1) _ _ w hops' hms' hl' hB' hr)
      by_cases hmu : mustB ops ms j = true
      · exact .inl hmu
      · refine .inr ?_
        have hmu := Bool.eq_false_iff.2 hmu
        simp only [mustB, Bool.or_eq_false_iff, Bool.not_eq_false', List.all_eq_true, List.mem_range, Bool.or_eq_true, Bool.not_eq_true'] at hmu
        have hk : ms.getD k false = true := by have := hms 0; simp at this; simp [← this]
        rcases hmu.2 k (Array.getElem?_eq_some_iff.1 h0).1 with h | h
        · rw [hk] at h; cases h
        · exact h
    | false =>
      simp only [Bool.false_eq_true, if_false, decide_eq_true_eq] at hb
      refine ⟨fun h1 => (by rw [hb] at h1; cases h1), fun i hi => ?_⟩
      rw [hb] at hi
      obtain rfl : i = k := by simpa using hi
      unfold wpOp
      simp only [h0]
      simp only [wpLex] at h
      split
      · rename_i hw
        rw [if_pos hw] at h
        exact h.imp (Oper.wp_mono (fun a' w' h' => ⟨h'.1, wpM_lex hsel hQ m l (i + 1) _ a' w' hops' hms' hl' hB' h'.2⟩)) id
      · rename_i hw
        rw [if_neg hw] at h
        exact ⟨h.1, wpM_lex hsel hQ m l (i + 1) _ _ w hops' hms' hl' hB' h.2⟩
/-- A region that draws its order, walked in the order of its text. 'ms': which operations only read, and may be taken first; S: what they read. -/
theorem wp_region_lex {id : Nat} {a : Act} {w : World} {l : List Oper} (S : World → Prop) (ms : List Bool) (hm : P.follows .mixedOrders = true) (hB : (Region.noSelect l.toArray && (lexMB l.toArray ms 0 (Array.replicate l.length false) && decide (ms.length = l.length))) = true)
    (hQ : ∀ c (a : Act) d v w, Q (.panic c) (a.put d v) w → Q (.panic c) a w)
    (h : wpLex P l.toArray Q S ms 0 ms l a { w with drawn := w.drawn + 1 }) : (Code.region id l.toArray true).wp P Q a w := by
  simp only [Bool.and_eq_true, decide_eq_true_eq] at hB
  refine wp_region_any hm (wpAny_of_M (S := S) (must := mustB l.toArray ms) _ _ _ _ ?_)
  have := wpM_lex (S := S) hB.1 hQ ms l 0 (Array.replicate l.length false) a { w with drawn := w.drawn + 1 } (fun j => by simp) (fun j => by simp) hB.2.2 hB.2.1 h
  simpa using this
/-! ### The steps -/
variable {ms m : List Bool} {k : Nat} {o : Oper} {rest : List Oper} {a : Act} {w : World}
theorem lex_take {v : Value} (hS : S w) (hg : o.guard = none) (hy : ∀ w', S w' → (execOp a.eval o).run P w' = .ok (.value v) w') (h : ∀ K : Act → World → Prop, (∀ a w, wpLex P ops Q S ms (k + 1) m rest a w → K a w) → K (a.put o.dst v) w) : wpLex P ops Q S ms k (true :: m) (o :: rest) a w :=
  ⟨hS, v, .inl ⟨by simp [Region.wanted, hg], hy⟩, h _ fun _ _ h => h⟩
theorem lex_take_on {v : Value} (i : Nat) (b : Bool) (oi : Oper) (d : Nat) (hS : S w) (hg : o.guard = some (i, b)) (hoi : ops[i]? = some oi) (hd : oi.dst = some d) (hv : a.tmps[d]? = some (.bool b))
    (hy : ∀ w', S w' → (execOp a.eval o).run P w' = .ok (.value v) w') (h : ∀ K : Act → World → Prop, (∀ a w, wpLex P ops Q S ms (k + 1) m rest a w → K a w) → K (a.put o.dst v) w) : wpLex P ops Q S ms k (true :: m) (o :: rest) a w :=
  ⟨hS, v, .inl ⟨by simp [Region.wanted, hg, yielded, hoi, hd, hv], hy⟩, h _ fun _ _ h => h⟩
theorem lex_take_off (i : Nat) (b c : Bool) (oi : Oper) (d : Nat) (hS : S w) (hg : o.guard = some (i, b)) (hoi : ops[i]? = some oi) (hd : oi.dst = some d) (hv : a.tmps[d]? = some (.bool c)) (hbc : (c == b) = false)
    (h : ∀ K : Act → World → Prop, (∀ a w, wpLex P ops Q S ms (k + 1) m rest a w → K a w) → K (a.put o.dst undef) w) : wpLex P ops Q S ms k (true :: m) (o :: rest) a w :=
  ⟨hS, undef, .inr ⟨by
    simp only [Region.wanted, hg, yielded, hoi, hd, hv, Option.bind_some]
    cases b <;> cases c <;> simp_all, rfl⟩, h _ fun _ _ h => h⟩
theorem lex_step (hg : o.guard = none) (h : ∀ K : Act → World → Prop, (∀ a w, S w → wpLex P ops Q S ms (k + 1) m rest a w → K a w) → o.wp P a w K Q) : wpLex P ops Q S ms k (false :: m) (o :: rest) a w := by
  unfold wpLex
  rw [if_pos (by simp [Region.wanted, hg])]
  exact .inl (h _ fun a' w' hS h' => ⟨fun _ => hS, h'⟩)
theorem lex_free (hg : o.guard = none) (hm : mustB ops ms k = false) (h : ∀ K : Act → World → Prop, (∀ a w, wpLex P ops Q S ms (k + 1) m rest a w → K a w) → o.wp P a w K Q) : wpLex P ops Q S ms k (false :: m) (o :: rest) a w := by
  unfold wpLex
  rw [if_pos (by simp [Region.wanted, hg])]
  exact .inl (h _ fun a' w' h' => ⟨fun h => (by rw [hm] at h; cases h), h'⟩)
theorem lex_nil (h : Q .normal a w) : wpLex P ops Q S ms k [] [] a w := h
/-- What is left stands alone, one behind the other, and S is wanted no more: an ordinary list. -/
def restB (ops : Array Oper) (ms : List Bool) : List Bool → Nat → Bool
  | [], _ => true
  | b :: m, k => !b && !mustB ops ms k && restB ops ms m (k + 1)
theorem lex_list : ∀ (m : List Bool) (l : List Oper) (k : Nat) (a : Act) (w : World), m.length = l.length → restB ops ms m k = true → wpList P ops Q l a w → wpLex P ops Q S ms k m l a w
  | [], [], _, _, _, _, _, h => h
  | [], _ :: _, _, _, _, hl, _, _ => by simp at hl
  | _ :: _, [], _, _, _, hl, _, _ => by simp at hl
  | b :: m, o :: l, k, a, w, hl, hB, h => by
    simp only [restB, Bool.and_eq_true, Bool.not_eq_true'] at hB
    obtain ⟨⟨rfl, hmu⟩, hB'⟩ := hB
    have hl' : m.length = l.length := by simpa using hl
    simp only [wpLex]
    simp only [wpList] at h
    split
    · rename_i hw
      rw [if_pos hw] at h
      exact h.imp (Oper.wp_mono fun a' w' h' => ⟨fun h => (by rw [hmu] at h; cases h), lex_list m l (k + 1) a' w' hl' hB' h'⟩) id
    · rename_i hw
      rw [if_neg hw] at h
      exact ⟨fun h => (by rw [hmu] at h; cases h), lex_list m l (k + 1) _ w hl' hB' h⟩
end
end Go.Proofs.YtgpgmmkkmoecmaaGreatDoor

/- inst.parser: rows. -/
namespace Go.Proofs.YtgpgmmkkmoecmaaGreatDoor
open Go.RowKit
attribute [local irreducible] wpStill wpLex Calls

theorem valsQ_len (doms : List (List Int)) : ∀ (scope : List Int) (ts : List Tok) (t : List Int) (r : List Tok), valsQ doms scope ts = .ok (t, r) → r.length ≤ ts.length
  | [], ts, t, r, h => by simp [valsQ] at h; rw [h.2]; exact Nat.le_refl _
  | v :: ss, ts, t, r, h => by
    cases ts with
    | nil => simp [valsQ, numberQ] at h
    | cons t0 r0 =>
      cases hn : numberQ 1000000 (t0 :: r0) with
      | error e => rw [valsQ_num hn] at h; cases h
      | ok p =>
        obtain ⟨t1, r1⟩ := p
        have hr : r1 = r0 := by
          simp only [numberQ] at hn
          split at hn
          · split at hn
            · injection hn with hn; injection hn with _ hn; exact hn.symm
            · cases hn
          · cases hn
        by_cases hm : t1.n ∈ nth [] doms v.toNat
        · rw [valsQ_go hn hm] at h
          cases hv : valsQ doms ss r1 with
          | error e => rw [hv] at h; cases h
          | ok q =>
            rw [hv] at h
            obtain ⟨ms, r2⟩ := q
            simp only [preV] at h
            injection h with h
            injection h with _ h
            have := valsQ_len doms ss r1 ms r2 hv
            subst hr
            subst h
            simp; omega
        · rw [valsQ_bad hn hm] at h; cases h
theorem rowQ_len {doms : List (List Int)} {scope : List Int} {ahead rows : List (List Int)} {ts r : List Tok} (h : rowQ doms scope ahead ts = .ok (rows, r)) : r.length ≤ ts.length ∧ rows.length = ahead.length + 1 := by
  rw [rowQ] at h
  cases hv : valsQ doms scope ts with
  | error e => rw [hv] at h; cases h
  | ok q =>
    rw [hv] at h
    obtain ⟨t, r1⟩ := q
    simp only at h
    split at h
    · injection h with h
      injection h with h1 h2
      subst h1 h2
      exact ⟨valsQ_len doms scope ts t r1 hv, by simp⟩
    · cases h
theorem rowsQ_err {doms : List (List Int)} {scope : List Int} {n : Nat} {ahead : List (List Int)} {ts : List Tok} {e : Int × Int} (h : rowQ doms scope ahead ts = .error e) : rowsQ doms scope (n + 1) ahead ts = .error e := by rw [rowsQ, h]
theorem rowsQ_end {doms : List (List Int)} {scope : List Int} {n : Nat} {ahead rows : List (List Int)} {ts r : List Tok} {t : Tok} (h : rowQ doms scope ahead ts = .ok (rows, t :: r)) (hi : isP t [44] = false) : rowsQ doms scope (n + 1) ahead ts = .ok (rows, t :: r) := by
  rw [rowsQ, h]; simp [isQ, hi]
theorem rowsQ_go {doms : List (List Int)} {scope : List Int} {n : Nat} {ahead rows : List (List Int)} {ts r : List Tok} {t : Tok} (h : rowQ doms scope ahead ts = .ok (rows, t :: r)) (hi : isP t [44] = true) : rowsQ doms scope (n + 1) ahead ts = rowsQ doms scope n rows r := by
  rw [rowsQ, h]; simp [isQ, hi]

/-- A constraint in a block of its own. -/
def ConAt (gc : Nat) (w : World) (kind : Int) (vs vr va : Value) : Prop := w.heap[gc]? = some (.cells #[.int .i64 kind, vs, vr, va] 34 (0, 0))
def TabOut (g gc : Nat) (w w' : World) (kind : Int) (vs va dv hv sv : Value) (e : Ending) (rows : List (List Int)) (r : List Tok) : Prop :=
  ∃ rv ok', e = .returned (.tuple #[]) ∧ ConAt gc w' kind vs rv va ∧ OwnD kRow 32 w.heap.size ok' rv rows w' ∧ (∀ k, ok' k → w.heap.size ≤ k ∧ k < w'.heap.size) ∧ PB g w' r dv hv sv ∧ Toks r ∧ rows.length ≤ 1000000
def TabRel (g gc : Nat) (w w0 : World) (doms : List (List Int)) (scope : List Int) (kind : Int) (vs va dv hv sv : Value) (res : PR (List (List Int))) (k : Nat) (wr : World) : Prop :=
  ∃ ts' ahead rv ok' n, k = ts'.length ∧ res = rowsQ doms scope (n + 1) ahead ts' ∧ ts'.length ≤ n ∧ ahead.length + ts'.length ≤ 200000 ∧ ConAt gc wr kind vs rv va ∧ OwnD kRow 32 w.heap.size ok' rv ahead wr ∧ (∀ k, ok' k → w.heap.size ≤ k ∧ k < wr.heap.size) ∧ PB g wr ts' dv hv sv ∧ Toks ts' ∧
    Chg (fun k => k = g ∨ k = gc) w wr ∧ w0.heap.size ≤ wr.heap.size

set_option maxRecDepth 100000 in
set_option maxHeartbeats 4000000 in
theorem rows_p (g gc : Nat) (w : World) (ts : List Tok) (doms : List (List Int)) (DA : Option Addr) (Dc : Nat) (hv sv va : Value) (okD okS : Nat → Prop) (scope : List Int) (SA : Option Addr) (Sc : Nat) (kind : Int)
    (h : PB g w ts (.slice DA doms.length Dc) hv sv) (hT : Toks ts) (htl : ts.length ≤ 150000) (hD : Sl kRow w okD (.slice DA doms.length Dc) doms) (hDg : ∀ k, okD k → g < k ∧ k ≠ gc)
    (hS : Sl (Kd.int .i64) w okS (.slice SA scope.length Sc) scope) (hSg : ∀ k, okS k → g < k ∧ k ≠ gc) (hs6 : scope.length ≤ 6) (hsr : ∀ v ∈ scope, 0 ≤ v ∧ v < doms.length) (hgc : g < gc) (hc : ConAt gc w kind (.slice SA scope.length Sc) (.slice none 0 0) va) :
    Calls Tryz.prog 105 #[.pointer (some ⟨g, 0, none⟩), .pointer (some ⟨gc, 0, none⟩)] w fun e w' => Out (tableQ doms scope ts) (TabOut g gc w w' kind (.slice SA scope.length Sc) va (.slice DA doms.length Dc) hv sv e) e ∧ Chg (fun k => k = g ∨ k = gc) w w' := by
  have hgw := h.lt
  obtain ⟨t, r, rfl⟩ := hT.cons
  have hsg := Lib.hid (sign_any g w t r _ hv sv [58] h hT)
  by_cases hi : isP t [58] = true
  · have hT2 := hT.tail (isP_kind hi)
    obtain ⟨t2, r2, rfl⟩ := hT2.cons
    simp only [hi, if_true] at hsg
    have hq : tableQ doms scope (t :: t2 :: r2) = if t2.kind = 3 ∧ t2.text = [59] then .ok ([], t2 :: r2) else rowsQ doms scope ((t2 :: r2).length + 1) [] (t2 :: r2) := by simp [tableQ, signQ, hi, nth]
    have HQ := Lib.hid hq
    have HT := Lib.hid hT2
    have HD := Lib.hid hD
    have HS := Lib.hid hS
    have HC := Lib.hid hc
    have hgcw := lt_of_block hc
    clear h hT hT2 hq hD hS hc hi
    go_enter Tryz.func105, Tryz.ntmps105
    go_wp2_with (go_at_call 71; refine hsg.out.mono ?_)
    rintro e w1 ⟨⟨rfl, hp⟩, hg⟩
    have HP := Lib.hid hp
    have HG := Lib.hid (chg_g hg (fun k => k = g ∨ k = gc) (Or.inl rfl))
    have hsz1 := hg.size
    have hgr := Lib.hid hg
    obtain ⟨A, n, c, hgb, hs⟩ := hp
    obtain ⟨b, o, rfl, hb, hn, hnc, hmc, c0, c1, c2, c3⟩ := tok_head hs
    have g0 := cell_at hgb (i := 0) rfl
    have hn0 : 0 < n := by omega
    have hgw1 : g < w1.heap.size := by omega
    clear hsg hg hgb hs hn
    have HX : Hid (decide (t2.text = [59]) = ((ByteArray.mk t2.text.toArray).toList == (ByteArray.mk [59].toArray).toList)) := Lib.hid (bytes_eq _ _).symm
    generalize (ByteArray.mk t2.text.toArray) = tb at c1 HX
    have hlit : (ByteArray.mk [59].toArray).toList = [59] := by rw [ByteArray.toList_eq]
    rw [hlit] at HX
    clear hlit
    have hgk : Chg (fun k => k = g ∨ k = gc) w (w1.alloc (.cells #[.int .i64 t2.kind, .string tb, .int .i64 t2.n, .int .i64 t2.at_] 82)) := HG.out.alloc _
    have HG2 := Lib.hid hgk
    have HP2 := Lib.hid (HP.out.alloc (.cells #[.int .i64 t2.kind, .string tb, .int .i64 t2.n, .int .i64 t2.at_] 82))
    have HC2 := Lib.hid (show ConAt gc (w1.alloc (.cells #[.int .i64 t2.kind, .string tb, .int .i64 t2.n, .int .i64 t2.at_] 82)) kind (.slice SA scope.length Sc) (.slice none 0 0) va from block_kept (below_alloc1 _ _) ((chg_of_grown hgr.out).heap HC.out (fun e => by injection e with e; omega)))
    clear hgk hgr
    by_cases hend : t2.kind = 3 ∧ t2.text = [59]
    · obtain ⟨hk3, ht⟩ := hend
      have hx : (tb.toList == [59]) = true := by rw [← HX.out]; simpa using ht
      have HR : Hid (tableQ doms scope (t :: t2 :: r2) = .ok ([], t2 :: r2)) := Lib.hid (by rw [HQ.out, if_pos ⟨hk3, ht⟩])
      have HP3 : Hid (PB g _ _ _ hv sv) := HP2
      have hk3' : ((t2.kind : Int) == 3) = true := by simpa using hk3
      clear ht HQ hk3
      go_wp2
      refine bodyPost_ret (results_none rfl _ _ _) rfl ?_
      refine ⟨?_, HG2.out⟩
      rw [HR.out]
      exact ⟨_, (fun _ => False), rfl, HC2.out, OwnD.nil _ _ _ _ _, fun _ h => h.elim, HP3.out, HT.out, by simp⟩
    · have HR : Hid (tableQ doms scope (t :: t2 :: r2) = rowsQ doms scope ((t2 :: r2).length + 1) [] (t2 :: r2)) := Lib.hid (by rw [HQ.out, if_neg hend])
      by_cases hk3 : t2.kind = 3
      · have hx : (tb.toList == [59]) = false := by rw [← HX.out]; simpa [hk3] using hend
        have hk3' : ((t2.kind : Int) == 3) = true := by simpa using hk3
        clear HQ hk3 hend
        go_wp2_with fail
        go_loopg [21] (t2 :: r2).length (fun k _ wr => TabRel g gc w w doms scope kind (.slice SA scope.length Sc) va (.slice DA doms.length Dc) hv sv (tableQ doms scope (t :: t2 :: r2)) k wr)
        case atStart => exact ⟨t2 :: r2, [], _, (fun _ => False), (t2 :: r2).length, rfl, HR.out, Nat.le_refl _, by simp at htl ⊢; omega, HC2.out, OwnD.nil _ _ _ _ _, fun _ h => h.elim, HP2.out, HT.out, HG2.out, HG2.out.size⟩
        case round =>
          clear HR HP2 HC2 HG2 HT
          obtain ⟨ts3, ahead, rv, ok3, fu, hk, hq, hfu, hal, hc, ho, hok, hp, hT3, hch, hsz⟩ := hrel
          obtain ⟨RA, Rc, rfl, _, _, _⟩ := ho.sl (by omega)
          have hgc3 := cell_at hc (i := 1) rfl
          have hgc4 := cell_at hc (i := 2) rfl
          have hrc := Lib.hid (row_p g w.heap.size wr.drew ts3 doms DA Dc hv sv okD okS ok3 scope SA Sc ahead _ hp.drew hT3
            (HD.out.chg (by decide) hch.drew (fun k hk e => by have := hDg k hk; omega)) (fun k hk => (hDg k hk).1) (HS.out.chg (by decide) hch.drew (fun k hk e => by have := hSg k hk; omega)) (fun k hk => (hSg k hk).1) hs6 hsr
            (ho.chg (chg_of_below (Below.drew (Below.refl _ _)) (fun _ => False)) (fun _ _ h => h.elim) (fun _ _ h => h.elim)) hgw hsz (fun k hk => by have := hok k hk; exact ⟨by omega, this.2⟩) (by omega))
          have HK := Lib.hid hk
          have HQ := Lib.hid hq
          have HO := Lib.hid ho
          have HC3 := Lib.hid (show ConAt gc wr.drew kind (.slice SA scope.length Sc) (.slice RA ahead.length Rc) va from hc)
          have HG3 := Lib.hid hch.drew
          have HOK := Lib.hid hok
          have hszd : w.heap.size ≤ wr.drew.heap.size := hsz
          clear hk hq hc ho hp hT3 hch hok
          have hgc3' : (World.drew wr).cell? ⟨gc, 1, none⟩ = _ := hgc3
          have hgc4' : (World.drew wr).cell? ⟨gc, 2, none⟩ = _ := hgc4
          have hfr : ∀ w', Chg (fun k => k = g ∨ (Value.slice RA ahead.length Rc).ownBlock = some k) (World.drew wr) w' → Chg (fun k => k = g ∨ k = gc) w w' := fun w' h => HG3.out.trans h (fun j hj hs => by
            rcases hs with hs | hs
            · exact Or.inl hs
            · have := (HO.out.own j hs).1; omega)
          have HF := Lib.hid hfr
          have hgn : ∀ k, (Value.slice RA ahead.length Rc).ownBlock = some k → k ≠ gc := fun k hk => by have := (HO.out.own k hk).1; omega
          have HGN := Lib.hid hgn
          have hwrd : wr.heap.size ≤ (World.drew wr).heap.size := Nat.le_refl _
          clear hfr hgn
          rcases hrq : rowQ doms scope ahead ts3 with ⟨p, x⟩ | ⟨rows, r3⟩
          · have HR : Hid (tableQ doms scope (t :: t2 :: r2) = .error (p, x)) := Lib.hid (by rw [HQ.out]; exact rowsQ_err hrq)
            rw [hrq] at hrc
            clear hrq HQ
            go_wp2_with fail
            refine wp_region_lex (fun w' => w'.cell? ⟨gc, 1, none⟩ = some (.slice SA scope.length Sc) ∧ w'.cell? ⟨gc, 2, none⟩ = some (.slice RA ahead.length Rc)) [true, true, true, true, true, true, true, true, true, true, false, false, false, false] (by kernel_rfl) (by kernel_rfl) (fun c a d v w h => by cases d <;> exact h) ?_
            change wpLex _ _ _ _ _ _ _ _ _ (World.drew wr)
            generalize World.drew wr = W at *
            repeat (first | (refine lex_take ⟨hgc3', hgc4'⟩ rfl (fun w' hw' => by (obtain ⟨x1, x2⟩ := hw'; (try go_simp); try rfl)) (fun K hK => ?_); go_simp; refine hK _ _ ?_; clear hK K) | (refine lex_take_on _ _ _ _ ⟨hgc3', hgc4'⟩ rfl rfl rfl rfl (fun w' hw' => by (obtain ⟨x1, x2⟩ := hw'; (try go_simp); try rfl)) (fun K hK => ?_); go_simp; refine hK _ _ ?_; clear hK K) | (refine lex_take_off _ _ _ _ _ ⟨hgc3', hgc4'⟩ rfl rfl rfl rfl rfl (fun K hK => ?_); go_simp; refine hK _ _ ?_; clear hK K))
            refine lex_step rfl (fun K hK => ?_)
            go_wp2_with (go_at_call 103; refine hrc.out.mono ?_; rintro e w' ⟨he, hg⟩; obtain rfl : e = wrongs p x := he)
            refine ⟨rfl, ?_⟩
            rw [HR.out]
            exact ⟨rfl, HF.out _ hg⟩
          · have hln0 := rowQ_len hrq
            have hln := hln0.1
            have hrl : rows.length ≤ ahead.length + 1 := by omega
            clear hln0
            rw [hrq] at hrc
            go_wp2_with fail
            refine wp_region_lex (fun w' => w'.cell? ⟨gc, 1, none⟩ = some (.slice SA scope.length Sc) ∧ w'.cell? ⟨gc, 2, none⟩ = some (.slice RA ahead.length Rc)) [true, true, true, true, true, true, true, true, true, true, false, false, false, false] (by kernel_rfl) (by kernel_rfl) (fun c a d v w h => by cases d <;> exact h) ?_
            change wpLex _ _ _ _ _ _ _ _ _ (World.drew wr)
            generalize World.drew wr = W at *
            repeat (first | (refine lex_take ⟨hgc3', hgc4'⟩ rfl (fun w' hw' => by (obtain ⟨x1, x2⟩ := hw'; (try go_simp); try rfl)) (fun K hK => ?_); go_simp; refine hK _ _ ?_; clear hK K) | (refine lex_take_on _ _ _ _ ⟨hgc3', hgc4'⟩ rfl rfl rfl rfl (fun w' hw' => by (obtain ⟨x1, x2⟩ := hw'; (try go_simp); try rfl)) (fun K hK => ?_); go_simp; refine hK _ _ ?_; clear hK K) | (refine lex_take_off _ _ _ _ _ ⟨hgc3', hgc4'⟩ rfl rfl rfl rfl rfl (fun K hK => ?_); go_simp; refine hK _ _ ?_; clear hK K))
            refine lex_step rfl (fun K hK => ?_)
            go_wp2_with (go_at_call 103; refine hrc.out.mono ?_; rintro e w' ⟨⟨v4, ok4, rfl, ho4, hok4, hp4, hT4, hat4⟩, hg⟩)
            obtain ⟨RA4, Rc4, rfl, _, _, _⟩ := ho4.sl (by omega)
            obtain ⟨t5, r5, rfl⟩ := hT4.cons
            have hc4 : ConAt gc w' kind (.slice SA scope.length Sc) (.slice RA ahead.length Rc) va := hg.heap HC3.out (fun h => by
              rcases h with h | h
              · omega
              · exact HGN.out _ h rfl)
            have hx1 := cell_at hc4 (i := 1) rfl
            have hx2 := cell_at hc4 (i := 2) rfl
            have hxf := Lib.frozen_of_heap hc4 2
            have hsz4 := hg.size
            have HG4 := Lib.hid (HF.out _ hg)
            have HO4 := Lib.hid ho4
            have HOK4 := Lib.hid hok4
            have HP4 := Lib.hid hp4
            have HT4 := Lib.hid hT4
            have HC4 := Lib.hid hc4
            have HRQ := Lib.hid hrq
            clear hg ho4 hok4 hp4 hT4 hc4 hrc hrq HC3 hat4
            refine hK _ _ ⟨hx1, hx2⟩ ?_
            clear hK K
            refine lex_list _ _ _ _ _ rfl (by kernel_rfl) ?_
            have HC5 : Hid (ConAt gc (w'.setCell ⟨gc, 2, none⟩ (.slice RA4 rows.length Rc4)) kind (.slice SA scope.length Sc) (.slice RA4 rows.length Rc4) va) := Lib.hid (by have := HC4.out; unfold ConAt at this ⊢; simp [World.setCell, Array.getElem?_modify, this])
            have HG5 := Lib.hid (HG4.out.trans (chg_setCell w' gc 2 (.slice RA4 rows.length Rc4)) (fun j _ h => Or.inr h))
            have HP5 := Lib.hid (HP4.out.chg (chg_setCell w' gc 2 (.slice RA4 rows.length Rc4)) (fun k hk e => by omega))
            have HO5 := Lib.hid (HO4.out.chg (chg_setCell w' gc 2 (.slice RA4 rows.length Rc4)) (fun k hk e => by
              rcases HOK4.out k hk with h | h
              · have := HOK.out k h; omega
              · omega) (fun k hk e => by have := (HO4.out.own k hk).1; omega))
            have hisc := Lib.hid (is_any g _ t5 r5 _ hv sv [44] HP5.out)
            have hgl := hxf
            have HL4 : Hid (∀ w'', Chg (fun k => k = g) (w'.setCell ⟨gc, 2, none⟩ (.slice RA4 rows.length Rc4)) w'' → ConAt gc w'' kind (.slice SA scope.length Sc) (.slice RA4 rows.length Rc4) va ∧ OwnD kRow 32 w.heap.size ok4 (.slice RA4 rows.length Rc4) rows w'' ∧ (∀ k, ok4 k → w.heap.size ≤ k ∧ k < w''.heap.size) ∧ Chg (fun k => k = g ∨ k = gc) w w'' ∧ w.heap.size ≤ w''.heap.size) := Lib.hid (fun w'' h => by
              have hs := h.size
              rw [Go.Deep.nblk_setCell] at hs
              refine ⟨h.heap HC5.out (fun e => by omega), HO5.out.chg h (fun k hk e => ?_) (fun k hk e => by have := (HO4.out.own k hk).1; omega), fun k hk => ?_, HG5.out.trans h (fun j _ e => Or.inl e), by omega⟩
              · rcases HOK4.out k hk with h | h
                · have := HOK.out k h; omega
                · omega
              · rcases HOK4.out k hk with h | h
                · have := HOK.out k h; omega
                · omega)
            by_cases hi5 : isP t5 [44] = true
            · have hT5 := HT4.out.tail (isP_kind hi5)
              simp only [hi5, if_true] at hisc
              have HR : Hid (tableQ doms scope (t :: t2 :: r2) = rowsQ doms scope fu rows r5) := Lib.hid (by rw [HQ.out]; exact rowsQ_go HRQ.out hi5)
              have hln2 := hln
              simp only [List.length_cons] at hln2
              obtain ⟨f2, hf2⟩ : ∃ f2, fu = f2 + 1 := ⟨fu - 1, by omega⟩
              rw [hf2] at HR
              have HK2 := Lib.hid (show r5.length < gk by have := HK.out; omega)
              clear HQ HRQ hi5
              go_wp2_with (go_at_call 102; refine hisc.out.mono ?_; rintro e w6 ⟨rfl, hp6, hg6⟩; (have HP6 := Lib.hid hp6); (have HG6 := Lib.hid hg6); clear hp6 hg6)
              obtain ⟨q1, q2, q3, q4, q5⟩ := HL4.out _ (chg_g HG6.out (fun k => k = g) rfl)
              go_roundg r5.length
              case rel => exact ⟨r5, rows, _, ok4, f2, rfl, HR.out, by omega, by omega, q1, q2, q3, HP6.out, hT5, q4, q5⟩
              case measure => exact HK2.out
            · have hi5 := Bool.eq_false_iff.2 hi5
              simp only [hi5, if_false, Bool.false_eq_true] at hisc
              have HR : Hid (tableQ doms scope (t :: t2 :: r2) = .ok (rows, t5 :: r5)) := Lib.hid (by rw [HQ.out]; exact rowsQ_end HRQ.out hi5)
              clear HQ HRQ hi5
              go_wp2_with (go_at_call 102; refine hisc.out.mono ?_; rintro e w6 ⟨rfl, hp6, hg6⟩; (have HP6 := Lib.hid hp6); (have HG6 := Lib.hid hg6); clear hp6 hg6)
              obtain ⟨q1, q2, q3, q4, q5⟩ := HL4.out _ (chg_g HG6.out (fun k => k = g) rfl)
              refine bodyPost_ret (results_none rfl _ _ _) rfl ?_
              refine ⟨?_, q4⟩
              rw [HR.out]
              exact ⟨_, ok4, rfl, q1, q2, q3, HP6.out, HT4.out, by omega⟩
      · have hk3' : ((t2.kind : Int) == 3) = false := by simpa using hk3
        clear HQ hk3 hend
        go_wp2_with fail
        go_loopg [21] (t2 :: r2).length (fun k _ wr => TabRel g gc w w doms scope kind (.slice SA scope.length Sc) va (.slice DA doms.length Dc) hv sv (tableQ doms scope (t :: t2 :: r2)) k wr)
        case atStart => exact ⟨t2 :: r2, [], _, (fun _ => False), (t2 :: r2).length, rfl, HR.out, Nat.le_refl _, by simp at htl ⊢; omega, HC2.out, OwnD.nil _ _ _ _ _, fun _ h => h.elim, HP2.out, HT.out, HG2.out, HG2.out.size⟩
        case round =>
          clear HR HP2 HC2 HG2 HT
          obtain ⟨ts3, ahead, rv, ok3, fu, hk, hq, hfu, hal, hc, ho, hok, hp, hT3, hch, hsz⟩ := hrel
          obtain ⟨RA, Rc, rfl, _, _, _⟩ := ho.sl (by omega)
          have hgc3 := cell_at hc (i := 1) rfl
          have hgc4 := cell_at hc (i := 2) rfl
          have hrc := Lib.hid (row_p g w.heap.size wr.drew ts3 doms DA Dc hv sv okD okS ok3 scope SA Sc ahead _ hp.drew hT3
            (HD.out.chg (by decide) hch.drew (fun k hk e => by have := hDg k hk; omega)) (fun k hk => (hDg k hk).1) (HS.out.chg (by decide) hch.drew (fun k hk e => by have := hSg k hk; omega)) (fun k hk => (hSg k hk).1) hs6 hsr
            (ho.chg (chg_of_below (Below.drew (Below.refl _ _)) (fun _ => False)) (fun _ _ h => h.elim) (fun _ _ h => h.elim)) hgw hsz (fun k hk => by have := hok k hk; exact ⟨by omega, this.2⟩) (by omega))
          have HK := Lib.hid hk
          have HQ := Lib.hid hq
          have HO := Lib.hid ho
          have HC3 := Lib.hid (show ConAt gc wr.drew kind (.slice SA scope.length Sc) (.slice RA ahead.length Rc) va from hc)
          have HG3 := Lib.hid hch.drew
          have HOK := Lib.hid hok
          have hszd : w.heap.size ≤ wr.drew.heap.size := hsz
          clear hk hq hc ho hp hT3 hch hok
          have hgc3' : (World.drew wr).cell? ⟨gc, 1, none⟩ = _ := hgc3
          have hgc4' : (World.drew wr).cell? ⟨gc, 2, none⟩ = _ := hgc4
          have hfr : ∀ w', Chg (fun k => k = g ∨ (Value.slice RA ahead.length Rc).ownBlock = some k) (World.drew wr) w' → Chg (fun k => k = g ∨ k = gc) w w' := fun w' h => HG3.out.trans h (fun j hj hs => by
            rcases hs with hs | hs
            · exact Or.inl hs
            · have := (HO.out.own j hs).1; omega)
          have HF := Lib.hid hfr
          have hgn : ∀ k, (Value.slice RA ahead.length Rc).ownBlock = some k → k ≠ gc := fun k hk => by have := (HO.out.own k hk).1; omega
          have HGN := Lib.hid hgn
          have hwrd : wr.heap.size ≤ (World.drew wr).heap.size := Nat.le_refl _
          clear hfr hgn
          rcases hrq : rowQ doms scope ahead ts3 with ⟨p, x⟩ | ⟨rows, r3⟩
          · have HR : Hid (tableQ doms scope (t :: t2 :: r2) = .error (p, x)) := Lib.hid (by rw [HQ.out]; exact rowsQ_err hrq)
            rw [hrq] at hrc
            clear hrq HQ
            go_wp2_with fail
            refine wp_region_lex (fun w' => w'.cell? ⟨gc, 1, none⟩ = some (.slice SA scope.length Sc) ∧ w'.cell? ⟨gc, 2, none⟩ = some (.slice RA ahead.length Rc)) [true, true, true, true, true, true, true, true, true, true, false, false, false, false] (by kernel_rfl) (by kernel_rfl) (fun c a d v w h => by cases d <;> exact h) ?_
            change wpLex _ _ _ _ _ _ _ _ _ (World.drew wr)
            generalize World.drew wr = W at *
            repeat (first | (refine lex_take ⟨hgc3', hgc4'⟩ rfl (fun w' hw' => by (obtain ⟨x1, x2⟩ := hw'; (try go_simp); try rfl)) (fun K hK => ?_); go_simp; refine hK _ _ ?_; clear hK K) | (refine lex_take_on _ _ _ _ ⟨hgc3', hgc4'⟩ rfl rfl rfl rfl (fun w' hw' => by (obtain ⟨x1, x2⟩ := hw'; (try go_simp); try rfl)) (fun K hK => ?_); go_simp; refine hK _ _ ?_; clear hK K) | (refine lex_take_off _ _ _ _ _ ⟨hgc3', hgc4'⟩ rfl rfl rfl rfl rfl (fun K hK => ?_); go_simp; refine hK _ _ ?_; clear hK K))
            refine lex_step rfl (fun K hK => ?_)
            go_wp2_with (go_at_call 103; refine hrc.out.mono ?_; rintro e w' ⟨he, hg⟩; obtain rfl : e = wrongs p x := he)
            refine ⟨rfl, ?_⟩
            rw [HR.out]
            exact ⟨rfl, HF.out _ hg⟩
          · have hln0 := rowQ_len hrq
            have hln := hln0.1
            have hrl : rows.length ≤ ahead.length + 1 := by omega
            clear hln0
            rw [hrq] at hrc
            go_wp2_with fail
            refine wp_region_lex (fun w' => w'.cell? ⟨gc, 1, none⟩ = some (.slice SA scope.length Sc) ∧ w'.cell? ⟨gc, 2, none⟩ = some (.slice RA ahead.length Rc)) [true, true, true, true, true, true, true, true, true, true, false, false, false, false] (by kernel_rfl) (by kernel_rfl) (fun c a d v w h => by cases d <;> exact h) ?_
            change wpLex _ _ _ _ _ _ _ _ _ (World.drew wr)
            generalize World.drew wr = W at *
            repeat (first | (refine lex_take ⟨hgc3', hgc4'⟩ rfl (fun w' hw' => by (obtain ⟨x1, x2⟩ := hw'; (try go_simp); try rfl)) (fun K hK => ?_); go_simp; refine hK _ _ ?_; clear hK K) | (refine lex_take_on _ _ _ _ ⟨hgc3', hgc4'⟩ rfl rfl rfl rfl (fun w' hw' => by (obtain ⟨x1, x2⟩ := hw'; (try go_simp); try rfl)) (fun K hK => ?_); go_simp; refine hK _ _ ?_; clear hK K) | (refine lex_take_off _ _ _ _ _ ⟨hgc3', hgc4'⟩ rfl rfl rfl rfl rfl (fun K hK => ?_); go_simp; refine hK _ _ ?_; clear hK K))
            refine lex_step rfl (fun K hK => ?_)
            go_wp2_with (go_at_call 103; refine hrc.out.mono ?_; rintro e w' ⟨⟨v4, ok4, rfl, ho4, hok4, hp4, hT4, hat4⟩, hg⟩)
            obtain ⟨RA4, Rc4, rfl, _, _, _⟩ := ho4.sl (by omega)
            obtain ⟨t5, r5, rfl⟩ := hT4.cons
            have hc4 : ConAt gc w' kind (.slice SA scope.length Sc) (.slice RA ahead.length Rc) va := hg.heap HC3.out (fun h => by
              rcases h with h | h
              · omega
              · exact HGN.out _ h rfl)
            have hx1 := cell_at hc4 (i := 1) rfl
            have hx2 := cell_at hc4 (i := 2) rfl
            have hxf := Lib.frozen_of_heap hc4 2
            have hsz4 := hg.size
            have HG4 := Lib.hid (HF.out _ hg)
            have HO4 := Lib.hid ho4
            have HOK4 := Lib.hid hok4
            have HP4 := Lib.hid hp4
            have HT4 := Lib.hid hT4
            have HC4 := Lib.hid hc4
            have HRQ := Lib.hid hrq
            clear hg ho4 hok4 hp4 hT4 hc4 hrc hrq HC3 hat4
            refine hK _ _ ⟨hx1, hx2⟩ ?_
            clear hK K
            refine lex_list _ _ _ _ _ rfl (by kernel_rfl) ?_
            have HC5 : Hid (ConAt gc (w'.setCell ⟨gc, 2, none⟩ (.slice RA4 rows.length Rc4)) kind (.slice SA scope.length Sc) (.slice RA4 rows.length Rc4) va) := Lib.hid (by have := HC4.out; unfold ConAt at this ⊢; simp [World.setCell, Array.getElem?_modify, this])
            have HG5 := Lib.hid (HG4.out.trans (chg_setCell w' gc 2 (.slice RA4 rows.length Rc4)) (fun j _ h => Or.inr h))
            have HP5 := Lib.hid (HP4.out.chg (chg_setCell w' gc 2 (.slice RA4 rows.length Rc4)) (fun k hk e => by omega))
            have HO5 := Lib.hid (HO4.out.chg (chg_setCell w' gc 2 (.slice RA4 rows.length Rc4)) (fun k hk e => by
              rcases HOK4.out k hk with h | h
              · have := HOK.out k h; omega
              · omega) (fun k hk e => by have := (HO4.out.own k hk).1; omega))
            have hisc := Lib.hid (is_any g _ t5 r5 _ hv sv [44] HP5.out)
            have hgl := hxf
            have HL4 : Hid (∀ w'', Chg (fun k => k = g) (w'.setCell ⟨gc, 2, none⟩ (.slice RA4 rows.length Rc4)) w'' → ConAt gc w'' kind (.slice SA scope.length Sc) (.slice RA4 rows.length Rc4) va ∧ OwnD kRow 32 w.heap.size ok4 (.slice RA4 rows.length Rc4) rows w'' ∧ (∀ k, ok4 k → w.heap.size ≤ k ∧ k < w''.heap.size) ∧ Chg (fun k => k = g ∨ k = gc) w w'' ∧ w.heap.size ≤ w''.heap.size) := Lib.hid (fun w'' h => by
              have hs := h.size
              rw [Go.Deep.nblk_setCell] at hs
              refine ⟨h.heap HC5.out (fun e => by omega), HO5.out.chg h (fun k hk e => ?_) (fun k hk e => by have := (HO4.out.own k hk).1; omega), fun k hk => ?_, HG5.out.trans h (fun j _ e => Or.inl e), by omega⟩
              · rcases HOK4.out k hk with h | h
                · have := HOK.out k h; omega
                · omega
              · rcases HOK4.out k hk with h | h
                · have := HOK.out k h; omega
                · omega)
            by_cases hi5 : isP t5 [44] = true
            · have hT5 := HT4.out.tail (isP_kind hi5)
              simp only [hi5, if_true] at hisc
              have HR : Hid (tableQ doms scope (t :: t2 :: r2) = rowsQ doms scope fu rows r5) := Lib.hid (by rw [HQ.out]; exact rowsQ_go HRQ.out hi5)
              have hln2 := hln
              simp only [List.length_cons] at hln2
              obtain ⟨f2, hf2⟩ : ∃ f2, fu = f2 + 1 := ⟨fu - 1, by omega⟩
              rw [hf2] at HR
              have HK2 := Lib.hid (show r5.length < gk by have := HK.out; omega)
              clear HQ HRQ hi5
              go_wp2_with (go_at_call 102; refine hisc.out.mono ?_; rintro e w6 ⟨rfl, hp6, hg6⟩; (have HP6 := Lib.hid hp6); (have HG6 := Lib.hid hg6); clear hp6 hg6)
              obtain ⟨q1, q2, q3, q4, q5⟩ := HL4.out _ (chg_g HG6.out (fun k => k = g) rfl)
              go_roundg r5.length
              case rel => exact ⟨r5, rows, _, ok4, f2, rfl, HR.out, by omega, by omega, q1, q2, q3, HP6.out, hT5, q4, q5⟩
              case measure => exact HK2.out
            · have hi5 := Bool.eq_false_iff.2 hi5
              simp only [hi5, if_false, Bool.false_eq_true] at hisc
              have HR : Hid (tableQ doms scope (t :: t2 :: r2) = .ok (rows, t5 :: r5)) := Lib.hid (by rw [HQ.out]; exact rowsQ_end HRQ.out hi5)
              clear HQ HRQ hi5
              go_wp2_with (go_at_call 102; refine hisc.out.mono ?_; rintro e w6 ⟨rfl, hp6, hg6⟩; (have HP6 := Lib.hid hp6); (have HG6 := Lib.hid hg6); clear hp6 hg6)
              obtain ⟨q1, q2, q3, q4, q5⟩ := HL4.out _ (chg_g HG6.out (fun k => k = g) rfl)
              refine bodyPost_ret (results_none rfl _ _ _) rfl ?_
              refine ⟨?_, q4⟩
              rw [HR.out]
              exact ⟨_, ok4, rfl, q1, q2, q3, HP6.out, HT4.out, by omega⟩
  · have hi := Bool.eq_false_iff.2 hi
    have HR : Hid (tableQ doms scope (t :: r) = .error (t.at_, 3)) := Lib.hid (by simp [tableQ, signQ, hi])
    simp only [hi, if_false, Bool.false_eq_true] at hsg
    clear hi h hT
    go_enter Tryz.func105, Tryz.ntmps105
    go_wp2_with (go_at_call 71; refine hsg.out.mono ?_; rintro e w1 ⟨rfl, hg⟩; refine ⟨rfl, ?_⟩; rw [HR.out]; exact ⟨rfl, chg_g hg _ (Or.inl rfl)⟩)
end Go.Proofs.YtgpgmmkkmoecmaaGreatDoor

/- Where a word stands in a row of words; slices.Index over the rows of words. -/
namespace Go.Proofs.YtgpgmmkkmoecmaaGreatDoor
open Go.RowKit

theorem idx_word (s : List UInt8) : ∀ (ws : List (List UInt8)) (i : Nat), Lib.idxFromS (ws.map fun l => (⟨l.toArray⟩ : ByteArray)) ⟨s.toArray⟩ i = wordFrom s i ws
  | [], _ => rfl
  | a :: r, i => by
    rw [List.map_cons, Lib.idxFromS, wordFrom, idx_word s r (i + 1)]
    by_cases h : a = s
    · subst h; simp
    · rw [if_neg h, if_neg]
      intro e
      have := congrArg (fun b : ByteArray => b.data.toList) e
      simp at this
      exact h this
theorem words_index (s : List UInt8) (ws : List (List UInt8)) (g : Nat) (w : World) {t : TypeId} {fr : Nat × Nat} (hg : w.heap[g]? = some (.cells (ws.map fun l => Value.string ⟨l.toArray⟩).toArray t fr)) (hl : ws.length ≤ 1000) (c : Nat) :
    Calls Tryz.prog 66 #[.slice (some ⟨g, 0, none⟩) ws.length c, .string ⟨s.toArray⟩] w fun e w' => e = .returned (.int .i64 (wordFrom s 0 ws)) ∧ w' = w := by
  have := Tryz.slices_Index_string g 0 ws.length c (ws.map fun l => (⟨l.toArray⟩ : ByteArray)) ⟨s.toArray⟩ w (by simp) (by omega) (fun j hj => by
    rw [Nat.zero_add]
    simp at hj
    exact cell_at hg (by simp [hj]))
  rw [List.take_of_length_le (by simp)] at this
  rw [← idx_word s ws 0]
  exact this
theorem wordFrom_lo (s : List UInt8) : ∀ (ws : List (List UInt8)) (i : Nat), wordFrom s i ws = -1 ∨ (i ≤ wordFrom s i ws ∧ wordFrom s i ws < i + ws.length)
  | [], _ => .inl rfl
  | a :: r, i => by
    rw [wordFrom]
    split
    · right; simp; omega
    · rcases wordFrom_lo s r (i + 1) with h | h
      · exact .inl h
      · right; simp; omega
end Go.Proofs.YtgpgmmkkmoecmaaGreatDoor

/- inst.parser: linear. -/
namespace Go.Proofs.YtgpgmmkkmoecmaaGreatDoor
open Go.RowKit
attribute [local irreducible] wpStill wpLex Calls

theorem termsQ_num {nd n : Nat} {args scope : List Int} {ts : List Tok} {e : Int × Int} (h : numberQ 1000000 ts = .error e) : termsQ nd (n + 1) args scope ts = .error e := by rw [termsQ, h]
theorem termsQ_zero {nd n : Nat} {args scope : List Int} {ts : List Tok} {t : Tok} {r : List Tok} (h : numberQ 1000000 ts = .ok (t, r)) (h0 : t.n = 0) : termsQ nd (n + 1) args scope ts = .error (t.at_, 4) := by
  rw [termsQ, h]; simp only; rw [if_pos h0]
theorem termsQ_var {nd n : Nat} {args scope : List Int} {ts : List Tok} {t : Tok} {r : List Tok} {e : Int × Int} (h : numberQ 1000000 ts = .ok (t, r)) (h0 : ¬ t.n = 0) (hv : varQ nd scope r = .error e) : termsQ nd (n + 1) args scope ts = .error e := by
  rw [termsQ, h]; simp only; rw [if_neg h0, hv]
theorem termsQ_go {nd n : Nat} {args scope scope' : List Int} {ts r2 : List Tok} {t t2 : Tok} {r : List Tok} (h : numberQ 1000000 ts = .ok (t, r)) (h0 : ¬ t.n = 0) (hv : varQ nd scope r = .ok (scope', t2 :: r2)) (hi : isP t2 [44] = true) :
    termsQ nd (n + 1) args scope ts = termsQ nd n (args ++ [t.n]) scope' r2 := by
  rw [termsQ, h]; simp only; rw [if_neg h0, hv]; simp [isQ, hi]
theorem termsQ_end {nd n : Nat} {args scope scope' : List Int} {ts r2 : List Tok} {t t2 : Tok} {r : List Tok} (h : numberQ 1000000 ts = .ok (t, r)) (h0 : ¬ t.n = 0) (hv : varQ nd scope r = .ok (scope', t2 :: r2)) (hi : isP t2 [44] = false) :
    termsQ nd (n + 1) args scope ts = .ok ((args ++ [t.n], scope'), t2 :: r2) := by
  rw [termsQ, h]; simp only; rw [if_neg h0, hv]; simp [isQ, hi]
/-- What is behind the terms of a linear constraint. -/
def linTail (args scope : List Int) (r : List Tok) : PR (List Int × List Int) :=
  match signQ [58] r with
    | .error e => .error e
    | .ok (_, r1) =>
      let t := (nextQ r1).1
      let how := wordFrom t.text 0 howsT
      if t.kind = 1 ∧ 0 ≤ how then (match numberQ 1000000 (nextQ r1).2 with
        | .error e => .error e
        | .ok (u, r2) => .ok ((args ++ [how, u.n], scope), r2)) else .error (t.at_, 3)
theorem linearQ_eq (nd : Nat) (ts : List Tok) : linearQ nd ts = match termsQ nd (ts.length + 1) [] [] ts with
    | .error e => .error e
    | .ok (p, r) => linTail p.1 p.2 r := by
  rw [linearQ]
  cases termsQ nd (ts.length + 1) [] [] ts with
  | error e => rfl
  | ok q => rfl
theorem linTail_sign {args scope : List Int} {r : List Tok} {e : Int × Int} (h : signQ [58] r = .error e) : linTail args scope r = .error e := by rw [linTail, h]
theorem linTail_word {args scope : List Int} {r r1 : List Tok} {t : Tok} (h : signQ [58] r = .ok ((), t :: r1)) (hn : ¬ (t.kind = 1 ∧ 0 ≤ wordFrom t.text 0 howsT)) : linTail args scope r = .error (t.at_, 3) := by
  simp only [linTail, h, nextQ]; exact if_neg hn
theorem linTail_num {args scope : List Int} {r r1 : List Tok} {t : Tok} {e : Int × Int} (h : signQ [58] r = .ok ((), t :: r1)) (hk : t.kind = 1) (hn : 0 ≤ wordFrom t.text 0 howsT) (hu : numberQ 1000000 r1 = .error e) : linTail args scope r = .error e := by
  have h4 : ¬ t.kind = 4 := by omega
  simp only [linTail, h, nextQ, if_neg h4, if_pos (And.intro hk hn), hu]
theorem linTail_ok {args scope : List Int} {r r1 r2 : List Tok} {t u : Tok} (h : signQ [58] r = .ok ((), t :: r1)) (hk : t.kind = 1) (hn : 0 ≤ wordFrom t.text 0 howsT) (hu : numberQ 1000000 r1 = .ok (u, r2)) : linTail args scope r = .ok ((args ++ [wordFrom t.text 0 howsT, u.n], scope), r2) := by
  have h4 : ¬ t.kind = 4 := by omega
  simp only [linTail, h, nextQ, if_neg h4, if_pos (And.intro hk hn), hu]
theorem numberQ_cases (m : Int) (t : Tok) (r : List Tok) : numberQ m (t :: r) = .error (t.at_, 3) ∧ (t.kind == 2) = false ∨ numberQ m (t :: r) = .error (t.at_, 4) ∧ (t.kind == 2) = true ∧ smallB t.n m = false ∨ numberQ m (t :: r) = .ok (t, r) ∧ (t.kind == 2) = true ∧ smallB t.n m = true := by
  by_cases hk : (t.kind == 2) = true
  · by_cases hs : smallB t.n m = true
    · exact .inr (.inr ⟨by simp [numberQ, hk, hs], hk, hs⟩)
    · exact .inr (.inl ⟨by simp [numberQ, hk, hs], hk, Bool.eq_false_iff.2 hs⟩)
  · exact .inl ⟨by simp [numberQ, hk], Bool.eq_false_iff.2 hk⟩
/-- A contract of number for a caller: what numberQ says. -/
def NumOut (g : Nat) (w' : World) (dv hv sv : Value) (e : Ending) (t : Tok) (r : List Tok) : Prop := e = .returned (.agg (tokC t).toArray) ∧ PB g w' r dv hv sv
theorem number_q (g : Nat) (w : World) (t : Tok) (r : List Tok) (dv hv sv : Value) (m : Int) (h3 : 0 ≤ m) (h4 : m ≤ 9223372036854775807) (h : PB g w (t :: r) dv hv sv) :
    Calls Tryz.prog 100 #[.pointer (some ⟨g, 0, none⟩), .int .i64 m] w fun e w' => Out (numberQ m (t :: r)) (NumOut g w' dv hv sv e) e ∧ Chg (fun k => k = g) w w' := by
  refine (number_p g w t r dv hv sv m h3 h4 h).mono fun e w' ⟨hc, hg⟩ => ⟨?_, chg_g hg _ rfl⟩
  rcases numberQ_cases m t r with ⟨h1, h2⟩ | ⟨h1, h2, h3⟩ | ⟨h1, h2, h3⟩
  · rw [h1]; simp [h2] at hc; exact hc
  · rw [h1]; simp [h2, h3] at hc; exact hc
  · rw [h1]; simp [h2, h3] at hc; exact hc
theorem numberQ_ok {m : Int} {ts r : List Tok} {t : Tok} (h : numberQ m ts = .ok (t, r)) : ts = t :: r ∧ ¬ t.kind = 4 := by
  cases ts with
  | nil => cases h
  | cons t0 r0 =>
    rcases numberQ_cases m t0 r0 with ⟨h1, h2⟩ | ⟨h1, h2, h3⟩ | ⟨h1, h2, h3⟩ <;> rw [h1] at h
    · cases h
    · cases h
    · injection h with h; injection h with ha hb; subst ha hb; exact ⟨rfl, fun h => by simp [h] at h2⟩
/-- A sign that must be, for a caller. -/
def SignOut (g : Nat) (w' : World) (dv hv sv : Value) (e : Ending) (_ : Unit) (r : List Tok) : Prop := e = .returned (.tuple #[]) ∧ PB g w' r dv hv sv ∧ Toks r
theorem sign_q (g : Nat) (w : World) (t : Tok) (r : List Tok) (dv hv sv : Value) (s : List UInt8) (h : PB g w (t :: r) dv hv sv) (hT : Toks (t :: r)) :
    Calls Tryz.prog 71 #[.pointer (some ⟨g, 0, none⟩), .string ⟨s.toArray⟩] w fun e w' => Out (signQ s (t :: r)) (SignOut g w' dv hv sv e) e ∧ Chg (fun k => k = g) w w' := by
  refine (sign_any g w t r dv hv sv s h hT).mono fun e w' ⟨hc, hg⟩ => ⟨?_, chg_g hg _ rfl⟩
  by_cases hi : isP t s = true
  · simp only [hi, if_true] at hc
    have : signQ s (t :: r) = .ok ((), r) := by simp [signQ, hi]
    rw [this]
    exact ⟨hc.1, hc.2, hT.tail (isP_kind hi)⟩
  · have hi := Bool.eq_false_iff.2 hi
    simp only [hi, Bool.false_eq_true, if_false] at hc
    have : signQ s (t :: r) = .error (t.at_, 3) := by simp [signQ, hi]
    rw [this]
    exact hc
theorem OwnI.snoc {base : Nat} {v' : Value} {xs : List Int} {c : World} {n : Nat} {ys : List Int} (h : c.ownsRow base 3 1 v' n (xs.map (Value.int .i64) ++ ys.map (Value.int .i64))) (hn : n = (xs ++ ys).length) : OwnI base v' (xs ++ ys) c := by
  unfold OwnI
  rw [List.map_append, ← hn]
  exact h
end Go.Proofs.YtgpgmmkkmoecmaaGreatDoor

/- inst.parser: linear. -/
namespace Go.Proofs.YtgpgmmkkmoecmaaGreatDoor
open Go.RowKit
attribute [local irreducible] wpStill wpLex Calls

/-- What linear leaves in the constraint. -/
def LinOut (g gc : Nat) (w w' : World) (kind : Int) (vr dv hv sv : Value) (e : Ending) (aa : List Int × List Int) (r : List Tok) : Prop :=
  ∃ vs va, e = .returned (.tuple #[]) ∧ ConAt gc w' kind vs vr va ∧ OwnI w.heap.size vs aa.2 w' ∧ OwnI w.heap.size va aa.1 w' ∧ aa.2.length ≤ 6 ∧ aa.1.length ≤ 10 ∧ PB g w' r dv hv sv ∧ Toks r
def LinRel (g gc : Nat) (w : World) (nd : Nat) (kind : Int) (vr dv hv sv : Value) (res : PR (List Int × List Int)) (k : Nat) (wr : World) : Prop :=
  ∃ ts' args scope vs va n, k = ts'.length ∧ res = termsQ nd (n + 1) args scope ts' ∧ ts'.length ≤ n ∧ args.length ≤ scope.length ∧ scope.length ≤ 6 ∧ ConAt gc wr kind vs vr va ∧ OwnI w.heap.size vs scope wr ∧ OwnI w.heap.size va args wr ∧ (∀ k, vs.ownBlock = some k → va.ownBlock ≠ some k) ∧
    PB g wr ts' dv hv sv ∧ Toks ts' ∧ Chg (fun k => k = g ∨ k = gc) w wr

abbrev tokO (t : Tok) (tb : ByteArray) : Obj := .cells #[.int .i64 t.kind, .string tb, .int .i64 t.n, .int .i64 t.at_] 82

set_option maxRecDepth 100000 in
set_option maxHeartbeats 4000000 in
theorem linear_p (g gc : Nat) (w : World) (ts : List Tok) (DA : Option Addr) (nd Dc : Nat) (hv sv vr : Value) (kind : Int)
    (h : PB g w ts (.slice DA nd Dc) hv sv) (hT : Toks ts) (hnd : nd ≤ 140737488355328) (hE : ∃ t fr, w.heap[1]? = some (.cells (howsT.map fun l => Value.string ⟨l.toArray⟩).toArray t fr)) (h8 : 8 ≤ g)
    (hgc : g < gc) (hc : ConAt gc w kind (.slice none 0 0) vr (.slice none 0 0)) :
    Calls Tryz.prog 104 #[.pointer (some ⟨g, 0, none⟩), .pointer (some ⟨gc, 0, none⟩)] w fun e w' => Out (linearQ nd ts) (LinOut g gc w w' kind vr (.slice DA nd Dc) hv sv e) e ∧ Chg (fun k => k = g ∨ k = gc) w w' := by
  have hgw := h.lt
  have hgcw := lt_of_block hc
  have HP := Lib.hid h
  have HT := Lib.hid hT
  have HC := Lib.hid hc
  have HE := Lib.hid hE
  obtain ⟨res, hres⟩ : ∃ res, res = termsQ nd (ts.length + 1) [] [] ts := ⟨_, rfl⟩
  obtain ⟨out, hout⟩ : ∃ out, out = linearQ nd ts := ⟨_, rfl⟩
  have HRES := Lib.hid hres
  have HOUT := Lib.hid (show out = _ from hout.trans (by rw [linearQ_eq, ← hres]))
  rw [← hout]
  clear h hT hc hE hres hout
  go_enter Tryz.func104, Tryz.ntmps104
  go_wp2_with fail
  go_loopg [7] ts.length (fun k _ wr => LinRel g gc w nd kind vr (.slice DA nd Dc) hv sv res k wr)
  case atStart => exact ⟨ts, [], [], _, _, ts.length, rfl, HRES.out, Nat.le_refl _, Nat.le_refl _, by simp, HC.out, World.ownsRow_nil _ _ _ _, World.ownsRow_nil _ _ _ _, fun k h => by simp [Value.ownBlock] at h, HP.out, HT.out, Chg.refl _ _⟩
  case round =>
    clear HP HT HC
    obtain ⟨ts3, args, scope, vs, va, fu, hk, hq, hfu, hla, hls, hc, hs, ha, hap, hp, hT, hch⟩ := hrel
    obtain ⟨t3, r3, rfl⟩ := hT.cons
    obtain ⟨SA, Sc, rfl, _, _, _⟩ := hs.sl (by omega)
    obtain ⟨AA, Ac, rfl, _, _, _⟩ := ha.sl (by omega)
    have hnm := Lib.hid (number_q g wr t3 r3 _ _ _ 1000000 (by decide) (by decide) hp)
    have HK := Lib.hid hk
    have HQ := Lib.hid hq
    have HC := Lib.hid hc
    have HS := Lib.hid hs
    have HA := Lib.hid ha
    have HAP := Lib.hid hap
    have HP := Lib.hid hp
    have HT := Lib.hid hT
    have HG := Lib.hid hch
    have hszr := hch.size
    clear hk hq hc hs ha hap hp hT hch
    rcases hn : numberQ 1000000 (t3 :: r3) with ⟨p, x⟩ | ⟨t4, r4⟩
    · have HR : Hid (out = .error (p, x)) := Lib.hid (by rw [HOUT.out, HQ.out, termsQ_num hn])
      rw [hn] at hnm
      clear hn
      go_wp2_with (go_at_call 100; refine hnm.out.mono ?_; rintro e w' ⟨he, hg⟩; obtain rfl : e = wrongs p x := he; refine ⟨rfl, ?_⟩; rw [HR.out]; exact ⟨rfl, HG.out.trans hg (fun j _ e => Or.inl e)⟩)
    · have hok := numberQ_ok hn
      obtain ⟨h1, h2⟩ := hok
      injection h1 with h1a h1b
      subst h1a h1b
      rw [hn] at hnm
      have hT3 := HT.out.tail h2
      obtain ⟨t4, r4, rfl⟩ := hT3.cons
      have HT4 := Lib.hid hT3
      have HTK : Hid (tokC t3 = [.int .i64 t3.kind, .string ⟨t3.text.toArray⟩, .int .i64 t3.n, .int .i64 t3.at_]) := Lib.hid rfl
      generalize (ByteArray.mk t3.text.toArray) = tb at HTK
      have HN := Lib.hid hn
      clear HT hT3 h2 hn
      by_cases h0 : t3.n = 0
      · have HR : Hid (out = .error (t3.at_, 4)) := Lib.hid (by rw [HOUT.out, HQ.out, termsQ_zero HN.out h0])
        have hb0 : (t3.n != 0) = false := by simp [h0]
        have H0 := Lib.hid h0
        clear h0
        go_wp2_with (first
          | (go_at_call 100; refine hnm.out.mono ?_; rintro e W2 ⟨⟨rfl, hp2⟩, hg2⟩; (have HG2 := Lib.hid (HG.out.trans hg2 (fun j _ e => Or.inl e))); clear hp2 hg2; rw [HTK.out])
          | (go_at_call 67; refine (must_no _ _ _ _ _ _ _ (by first | rfl | exact hb0)).mono ?_; rintro e W3 ⟨rfl, hb3⟩; refine ⟨rfl, ?_⟩; rw [HR.out]; exact ⟨rfl, (HG2.out.alloc _).thenBelow hb3⟩))
      · have hb0 : (t3.n != 0) = true := by simp [h0]
        go_wp2_with (first
          | (go_at_call 100; refine hnm.out.mono ?_; rintro e W2 ⟨⟨rfl, hp2⟩, hg2⟩; (have HC2 := Lib.hid hg2); (have HP2 := Lib.hid hp2); clear hp2 hg2; rw [HTK.out])
          | (go_at_call 67; refine (must_yes _ _ _ _ _ _ _ (by first | rfl | exact hb0)).mono ?_; rintro e W3 ⟨rfl, hb3⟩; (have HB3 := Lib.hid hb3); clear hb3))
        have hF : Chg (fun k => k = g) wr W3.drew := ((HC2.out.alloc (tokO t3 tb)).thenBelow HB3.out).drew
        have hX : W3.drew.heap[W2.heap.size]? = some (tokO t3 tb) := block_kept HB3.out (heap_alloc_new W2 _)
        have hk2 := HC2.out.size
        have HX := Lib.hid hX
        have HC4 := Lib.hid (show ConAt gc W3.drew kind (.slice SA scope.length Sc) vr (.slice AA args.length Ac) from hF.heap HC.out (fun e => by omega))
        have HS4 := Lib.hid (HS.out.chg hF (fun k hk e => by have := (HS.out.lt k hk).1; omega))
        have HA4 := Lib.hid (HA.out.chg hF (fun k hk e => by have := (HA.out.lt k hk).1; omega))
        have hp4 : PB g W3.drew (t4 :: r4) (.slice DA nd Dc) hv sv := (((HP2.out.alloc (tokO t3 tb)).grown (below_grown0 HB3.out none) (by simp))).drew
        have HP4 := Lib.hid hp4
        have HG4 := Lib.hid (HG.out.trans hF (fun j _ e => Or.inl e))
        have hsz4 := HG4.out.size
        have hszF := hF.size
        have HAO := Lib.hid (fun k hk => HA.out.lt k hk)
        have HSO := Lib.hid (fun k hk => HS.out.lt k hk)
        clear hF hX hp4 HC2 HP2 HB3 HC HS HA HP HG
        obtain ⟨i0, hi, hz0, hz1, hz2⟩ := info_parts (show (Tryz.prog.info? 3).map (fun i => (i.zero, i.size, i.bytes)) = some (some (.int .i64 0), 1, 8) by kernel_rfl)
        refine wp_region_lex (fun w' => w'.cell? ⟨gc, 3, none⟩ = some (.slice AA args.length Ac) ∧ w'.cell? ⟨W2.heap.size, 2, none⟩ = some (.int .i64 t3.n)) [true, true, true, true, true, true, true, false, false, false, false, false] (by kernel_rfl) (by kernel_rfl) (fun c a d v w h => by cases d <;> exact h) ?_
        change wpLex _ _ _ _ _ _ _ _ _ (World.drew W3)
        generalize World.drew W3 = W at *
        generalize W2.heap.size = k2 at *
        have x1 := cell_at HC4.out (i := 3) rfl
        have x2 := cell_at HX.out (i := 2) rfl
        repeat (first | (refine lex_take ⟨x1, x2⟩ rfl (fun w' hw' => by (obtain ⟨y1, y2⟩ := hw'; (try go_simp); try rfl)) (fun K hK => ?_); go_simp; refine hK _ _ ?_; clear hK K) | (refine lex_take_on _ _ _ _ ⟨x1, x2⟩ rfl rfl rfl rfl (fun w' hw' => by (obtain ⟨y1, y2⟩ := hw'; (try go_simp); try rfl)) (fun K hK => ?_); go_simp; refine hK _ _ ?_; clear hK K) | (refine lex_take_off _ _ _ _ _ ⟨x1, x2⟩ rfl rfl rfl rfl rfl (fun K hK => ?_); go_simp; refine hK _ _ ?_; clear hK K))
        refine lex_step rfl (fun K hK => ?_)
        go_wp2_with fail
        have ha5 : OwnI w.heap.size _ args (W.alloc (.cells #[.int .i64 t3.n] 3)) := HA4.out.chg (Chg.alloc0 W _ (fun _ => False)) (fun _ _ h => h.elim)
        have HA5 := Lib.hid ha5
        have z1 := cell_kept (below_alloc1 W (.cells #[.int .i64 t3.n] 3)) x1
        have z2 := cell_kept (below_alloc1 W (.cells #[.int .i64 t3.n] 3)) x2
        clear ha5
        refine hK _ _ ⟨z1, z2⟩ ?_
        clear hK K
        refine lex_step rfl (fun K hK => ?_)
        refine wp_append_lies _ _ _ 32 rfl w.heap.size 3 i0 _ 1 8 Tryz.underlying32 hi hz0 hz1 hz2 rfl (by decide) (.slice AA args.length Ac) args.length (args.map (Value.int .i64)) rfl HA5.out ⟨_, 0, none⟩ 1 1 [.int .i64 t3.n] rfl rfl (World.news_of_block (cs := #[.int .i64 t3.n]) (t := 3) (fr := (0, 0)) (heap_alloc_new W _)) (by simp [Value.oneCell']) (by decide) (by simp only [maxLen]; omega) (by omega) (by simp; omega) (W.heap.size + 1) (by simp) ?_
        intro kb cap W5 hown hgrow hat hlt
        have hF5 : Chg (fun k => (Value.slice AA args.length Ac).ownBlock = some k) W W5 := (Chg.alloc0 W _ _).trans (chg_of_grown hgrow) (fun _ _ h => h)
        have hc5 : ConAt gc W5 kind (.slice SA scope.length Sc) vr (.slice AA args.length Ac) := hF5.heap HC4.out (fun e => by have := (HAO.out _ e).1; omega)
        have y1 := cell_at hc5 (i := 3) rfl
        have y2 : W5.cell? ⟨k2, 2, none⟩ = some (.int .i64 t3.n) := cell_at (hF5.heap HX.out (fun e => by have := (HAO.out _ e).2; omega)) (i := 2) rfl
        have y3 := cell_at hc5 (i := 1) rfl
        have yf := Lib.frozen_of_heap hc5 3
        have hC6 : ConAt gc (W5.setCell ⟨gc, 3, none⟩ (.slice (some ⟨kb, 0, none⟩) (args.length + 1) cap)) kind (.slice SA scope.length Sc) vr (.slice (some ⟨kb, 0, none⟩) (args.length + 1) cap) := by
          unfold ConAt at hc5 ⊢; simp [World.setCell, Array.getElem?_modify, hc5]
        have hF6 : Chg (fun k => k = gc ∨ (Value.slice AA args.length Ac).ownBlock = some k) W (W5.setCell ⟨gc, 3, none⟩ (.slice (some ⟨kb, 0, none⟩) (args.length + 1) cap)) := (hF5.mono (fun _ _ h => Or.inr h)).trans (chg_setCell W5 gc 3 _) (fun _ _ h => Or.inl h)
        have hS6 := HS4.out.chg hF6 (fun k hk e => by
          rcases e with e | e
          · have := (HSO.out k hk).1; omega
          · exact HAP.out k hk e)
        have hA6 : OwnI w.heap.size (.slice (some ⟨kb, 0, none⟩) (args.length + 1) cap) (args ++ [t3.n]) (W5.setCell ⟨gc, 3, none⟩ (.slice (some ⟨kb, 0, none⟩) (args.length + 1) cap)) := (OwnI.snoc (ys := [t3.n]) hown (by simp)).chg (chg_setCell W5 gc 3 _) (fun k hk e => by
          rcases hat with h | h
          · have h3 : kb = k := by simpa [Value.ownBlock] using hk
            have := (HAO.out kb h).1; omega
          · have h3 : kb = k := by simpa [Value.ownBlock] using hk
            omega)
        have hP6 := HP4.out.chg hF6 (fun k hk e => by
          rcases e with e | e
          · omega
          · have := (HAO.out k e).1; omega)
        have hG6 := HG4.out.trans hF6 (fun j hj e => by
          rcases e with e | e
          · exact Or.inr e
          · have := (HAO.out j e).1; omega)
        have hap6 : ∀ k, (Value.slice SA scope.length Sc).ownBlock = some k → kb ≠ k := fun k hk e => by
          rcases hat with h | h
          · exact HAP.out k hk (by rw [h, e])
          · have := (HSO.out k hk).2; omega
        have hvc := Lib.hid (variable_p g w.heap.size _ t4 r4 DA nd Dc hv sv scope _ hP6 hnd hgw hG6.size hS6 hls)
        have HC6 := Lib.hid hC6
        have HA6 := Lib.hid hA6
        have HP6 := Lib.hid hP6
        have HG6 := Lib.hid hG6
        have HAP6 := Lib.hid hap6
        have HSZ6 := Lib.hid hF6.size
        have HKB : Hid (w.heap.size ≤ kb ∧ kb < (W5.setCell ⟨gc, 3, none⟩ (.slice (some ⟨kb, 0, none⟩) (args.length + 1) cap)).heap.size) := Lib.hid (hA6.lt kb rfl)
        clear hown hgrow hat hF5 hc5 hC6 hF6 hS6 hA6 hP6 hG6 hap6 z1 z2 x1 x2 HC4 HS4 HA4 HP4 HG4 HX HA5
        refine hK _ _ ⟨y1, y2⟩ ?_
        clear hK K
        refine lex_list _ _ _ _ _ rfl (by kernel_rfl) ?_
        rcases hvq : varQ nd scope (t4 :: r4) with ⟨p, x⟩ | ⟨scope', r5⟩
        · have HR : Hid (out = .error (p, x)) := Lib.hid (by rw [HOUT.out, HQ.out, termsQ_var HN.out h0 hvq])
          rw [hvq] at hvc
          clear hvq
          go_wp2_with (go_at_call 159; refine hvc.out.mono ?_; rintro e w' ⟨he, hg⟩; obtain rfl : e = wrongs p x := he; refine ⟨rfl, ?_⟩; rw [HR.out]; exact ⟨rfl, HG6.out.trans hg (fun j hj e => by
            rcases e with e | e
            · exact Or.inl e
            · have := (HSO.out j e).1; omega)⟩)
        · obtain ⟨hv1, rfl, hv2, hv3⟩ := varQ_ok hvq
          have hT5 := HT4.out.tail (by omega)
          obtain ⟨t5, r5, rfl⟩ := hT5.cons
          have HT5 := Lib.hid hT5
          have HVQ := Lib.hid hvq
          have hl6 : scope'.length ≤ 6 := by rw [hv2]; simp; omega
          have hl7 : args.length + 1 ≤ scope'.length := by rw [hv2]; simp; omega
          rw [hvq] at hvc
          clear hvq hv1 hv2 hv3 hT5 HT4
          go_wp2_with (go_at_call 159; refine hvc.out.mono ?_; rintro e W7 ⟨⟨v7, rfl, ho7, hp7, hat7⟩, hg7⟩; obtain ⟨SB, Sd, rfl, _, _, _⟩ := ho7.sl (by omega); (have hc7 : ConAt gc W7 kind (.slice SA scope.length Sc) vr (.slice (some ⟨kb, 0, none⟩) (args.length + 1) cap) := hg7.heap HC6.out (fun e => by rcases e with e | e; omega; have := (HSO.out _ e).1; omega)); (have y4 := cell_at hc7 (i := 1) rfl); (have y5 := Lib.frozen_of_heap hc7 1); (have HC7 := Lib.hid hc7); (have HO7 := Lib.hid ho7); (have HP7 := Lib.hid hp7); (have HAT7 := Lib.hid hat7); (have HG7 := Lib.hid hg7); clear ho7 hp7 hat7 hg7 hc7)
          have hC8 : ConAt gc (W7.setCell ⟨gc, 1, none⟩ (.slice SB scope'.length Sd)) kind (.slice SB scope'.length Sd) vr (.slice (some ⟨kb, 0, none⟩) (args.length + 1) cap) := by
            have := HC7.out
            unfold ConAt at this ⊢; simp [World.setCell, Array.getElem?_modify, this]
          have hO8 := HO7.out.chg (chg_setCell W7 gc 1 (.slice SB scope'.length Sd)) (fun k hk e => by have := (HO7.out.lt k hk).1; omega)
          have hA8 := (HA6.out.chg HG7.out (fun k hk e => by
            have h3 : kb = k := by simpa [Value.ownBlock] using hk
            rcases e with e | e
            · have := HKB.out.1; omega
            · exact HAP6.out k e h3)).chg (chg_setCell W7 gc 1 (.slice SB scope'.length Sd)) (fun k hk e => by
            have h3 : kb = k := by simpa [Value.ownBlock] using hk
            have := HKB.out.1; omega)
          have hP8 := HP7.out.chg (chg_setCell W7 gc 1 (.slice SB scope'.length Sd)) (fun k hk e => by omega)
          have hG8 := (HG6.out.trans HG7.out (fun j hj e => by
            rcases e with e | e
            · exact Or.inl e
            · have := (HSO.out j e).1; omega)).trans (chg_setCell W7 gc 1 (.slice SB scope'.length Sd)) (fun j _ e => Or.inr e)
          have hap8 : ∀ k, (Value.slice SB scope'.length Sd).ownBlock = some k → (Value.slice (some ⟨kb, 0, none⟩) (args.length + 1) cap).ownBlock ≠ some k := fun k hk e => by
            have h3 : kb = k := by simpa [Value.ownBlock] using e
            rcases HAT7.out with h | ⟨k', h, hk'⟩
            · exact HAP6.out k (h ▸ hk) h3
            · rw [hk] at h; injection h with h; have := HKB.out.2; omega
          have hisc := Lib.hid (is_any g _ t5 r5 _ hv sv [44] hP8)
          have hlast : ∀ w'', Chg (fun k => k = g) (W7.setCell ⟨gc, 1, none⟩ (.slice SB scope'.length Sd)) w'' → ConAt gc w'' kind (.slice SB scope'.length Sd) vr (.slice (some ⟨kb, 0, none⟩) (args.length + 1) cap) ∧ OwnI w.heap.size (.slice SB scope'.length Sd) scope' w'' ∧
              OwnI w.heap.size (.slice (some ⟨kb, 0, none⟩) (args.length + 1) cap) (args ++ [t3.n]) w'' ∧ Chg (fun k => k = g ∨ k = gc) w w'' := fun w'' h =>
            ⟨h.heap hC8 (fun e => by omega), hO8.chg h (fun k hk e => by have := (hO8.lt k hk).1; omega), hA8.chg h (fun k hk e => by have := (hA8.lt k hk).1; omega), hG8.trans h (fun j _ e => Or.inl e)⟩
          have HL := Lib.hid hlast
          have HAP8 := Lib.hid hap8
          have hKB1 := HKB.out.1
          clear hC8 hO8 hA8 hP8 hG8 hap8 hlast HC7 HO7 HP7 HAT7 HG7 HC6 HA6 HP6 HG6 HAP6 y4 y5 hvc HSO HAO HKB HSZ6 y1 y2 y3 yf HAP
          by_cases hi5 : isP t5 [44] = true
          · have hT6 := HT5.out.tail (isP_kind hi5)
            simp only [hi5, if_true] at hisc
            have HR : Hid (res = termsQ nd fu (args ++ [t3.n]) scope' r5) := Lib.hid (by rw [HQ.out]; exact termsQ_go HN.out h0 HVQ.out hi5)
            simp only [List.length_cons] at hfu
            obtain ⟨f2, hf2⟩ : ∃ f2, fu = f2 + 1 := ⟨fu - 1, by omega⟩
            rw [hf2] at HR
            have HK2 := Lib.hid (show r5.length < gk by have := HK.out; simp only [List.length_cons] at this; omega)
            have HT6 := Lib.hid hT6
            clear hi5 hT6 HQ
            go_wp2_with (go_at_call 102; refine hisc.out.mono ?_; rintro e w9 ⟨rfl, hp9, hg9⟩; (have HP9 := Lib.hid hp9); (have HG9 := Lib.hid hg9); clear hp9 hg9)
            obtain ⟨q1, q2, q3, q4⟩ := HL.out _ (chg_g HG9.out (fun k => k = g) rfl)
            go_roundg r5.length
            case rel => exact ⟨r5, args ++ [t3.n], scope', _, _, f2, rfl, HR.out, by omega, by simp; omega, hl6, q1, q2, by simpa using q3, HAP8.out, HP9.out, HT6.out, q4⟩
            case measure => exact HK2.out
          · have hi5 := Bool.eq_false_iff.2 hi5
            simp only [hi5, if_false, Bool.false_eq_true] at hisc
            have HR : Hid (out = linTail (args ++ [t3.n]) scope' (t5 :: r5)) := Lib.hid (by rw [HOUT.out, HQ.out, termsQ_end HN.out h0 HVQ.out hi5])
            clear hi5 HQ HVQ HN HOUT HRES
            go_wp2_with (go_at_call 102; refine hisc.out.mono ?_; rintro e w9 ⟨rfl, hp9, hg9⟩; (have HP9 := Lib.hid hp9); (have HG9 := Lib.hid (chg_g hg9 (fun k => k = g) rfl)); clear hp9 hg9)
            have hsg := sign_q g w9 t5 r5 _ hv sv [58] HP9.out HT5.out
            rcases hsq : signQ [58] (t5 :: r5) with ⟨p, x⟩ | ⟨u0, r6⟩
            · have HR2 : Hid (out = .error (p, x)) := Lib.hid (by rw [HR.out, linTail_sign hsq])
              rw [hsq] at hsg
              refine hsg.mono ?_
              rintro e w' ⟨he, hg⟩
              obtain rfl : e = wrongs p x := he
              refine ⟨rfl, ?_⟩
              rw [HR2.out]
              exact ⟨rfl, (HL.out _ (HG9.out.trans hg (fun _ _ e => e))).2.2.2⟩
            · rw [hsq] at hsg
              refine hsg.mono ?_
              rintro e w10 ⟨⟨rfl, hp10, hT6⟩, hg10⟩
              obtain ⟨t6, r6, rfl⟩ := hT6.cons
              have HSQ := Lib.hid hsq
              have HG10 := Lib.hid (HG9.out.trans hg10 (fun _ _ e => e))
              have HT6 := Lib.hid hT6
              have hnx := Lib.hid (next_any g w10 t6 r6 _ hv sv hp10)
              have HTK6 : Hid (tokC t6 = [.int .i64 t6.kind, .string ⟨t6.text.toArray⟩, .int .i64 t6.n, .int .i64 t6.at_]) := Lib.hid rfl
              clear hsq hsg hg10 hT6 hp10 hisc HG9 HP9 HT5
              go_wp2_with (go_at_call 65; refine hnx.out.mono ?_; rintro e w11 ⟨rfl, hp11, hg11⟩; (have HP11 := Lib.hid hp11); (have HG11 := Lib.hid (HG10.out.trans (chg_g hg11 (fun k => k = g) rfl) (fun _ _ e => e))); clear hp11 hg11; rw [HTK6.out])
              have hX := Lib.hid (show (w11.alloc (tokO t6 ⟨t6.text.toArray⟩)).drew.heap[w11.heap.size]? = some (tokO t6 ⟨t6.text.toArray⟩) from heap_alloc_new w11 _)
              have HG12 := Lib.hid (HG11.out.alloc (tokO t6 ⟨t6.text.toArray⟩)).drew
              have HP12 := Lib.hid ((HP11.out.alloc (tokO t6 ⟨t6.text.toArray⟩)).drew)
              clear HP11 HG11 HG10 hnx
              refine wp_region_still_lit (by kernel_rfl) (by kernel_rfl) ?_
              change wpStill _ _ (World.drew (w11.alloc (tokO t6 ⟨t6.text.toArray⟩))) (fun a' => Exit.then _ _ Exit.normal a' (World.drew (w11.alloc (tokO t6 ⟨t6.text.toArray⟩)))) _ _
              obtain ⟨q1, q2, q3, q4⟩ := HL.out _ HG12.out
              have HQ1 := Lib.hid q1
              have HQ2 := Lib.hid q2
              have HQ3 := Lib.hid q3
              have HQ4 := Lib.hid q4
              obtain ⟨th, fh, hh⟩ := HE.out
              have HHW := Lib.hid (q4.heap hh (fun e => by omega))
              have hsz12 := q4.size
              clear q1 q2 q3 q4 HL HG12 hh
              generalize World.drew (w11.alloc (tokO t6 ⟨t6.text.toArray⟩)) = W at *
              generalize w11.heap.size = k6 at *
              have HIX := Lib.hid (words_index t6.text howsT 1 W HHW.out (by decide) 3)
              generalize (ByteArray.mk t6.text.toArray) = tb6 at *
              have d0 := cell_at hX.out (i := 0) rfl
              have d1 := cell_at hX.out (i := 1) rfl
              have d2 := cell_at hX.out (i := 2) rfl
              have d3 := cell_at hX.out (i := 3) rfl
              repeat (first | (refine still_plain rfl (fun K hK => ?_); go_simp; refine hK _ ?_; clear hK K) | (refine still_off _ _ _ _ _ rfl rfl rfl rfl rfl (fun K hK => ?_); go_simp; refine hK _ ?_; clear hK K) | (refine still_on _ _ _ _ rfl rfl rfl rfl (fun K hK => ?_); go_simp; refine hK _ ?_; clear hK K) | (refine still_dead _ _ _ _ rfl rfl rfl rfl (fun K hK => ?_); go_simp; refine hK _ ?_; clear hK K))
              ((first | refine still_plain rfl (fun K hK => ?_) | refine still_on _ _ _ _ rfl rfl rfl rfl (fun K hK => ?_)); go_simp; refine ⟨_, HIX.out, hK _ ?_⟩; clear hK K)
              repeat (first | (refine still_plain rfl (fun K hK => ?_); go_simp; refine hK _ ?_; clear hK K) | (refine still_off _ _ _ _ _ rfl rfl rfl rfl rfl (fun K hK => ?_); go_simp; refine hK _ ?_; clear hK K) | (refine still_on _ _ _ _ rfl rfl rfl rfl (fun K hK => ?_); go_simp; refine hK _ ?_; clear hK K) | (refine still_dead _ _ _ _ rfl rfl rfl rfl (fun K hK => ?_); go_simp; refine hK _ ?_; clear hK K))
              refine wpStill_nil ?_
              generalize hhow : wordFrom t6.text 0 howsT = how at *
              have HH := Lib.hid hhow
              clear hhow
              by_cases hgood : t6.kind = 1 ∧ 0 ≤ how
              · obtain ⟨hk1, hh0⟩ := hgood
                have hk1b : (t6.kind == 1) = true := by simpa using hk1
                have hh0b : decide (0 ≤ how) = true := by simpa using hh0
                have hT7 := HT6.out.tail (by omega)
                obtain ⟨t7, r7, rfl⟩ := hT7.cons
                have HT7 := Lib.hid hT7
                have hpp := HP12.out
                rw [if_neg (by omega)] at hpp
                have HP13 := Lib.hid hpp
                have HK1 := Lib.hid hk1
                clear hT7 HT6 hpp HP12 hk1
                go_wp2_with (go_at_call 67; refine (must_yes _ _ _ _ _ _ _ (by first | rfl | exact hh0b)).mono ?_; rintro e W13 ⟨rfl, hb13⟩; (have HB13 := Lib.hid (hb13.trans (Below.drew (Below.refl W13.heap.size W13) |>.mono hb13.size))); clear hb13 d0 d1 d2 d3)
                have hc13 : ConAt gc W13.drew kind _ vr _ := block_kept HB13.out HQ1.out
                have ho13 := HQ2.out.chg (chg_of_below HB13.out (fun _ => False)) (fun _ _ h => h.elim)
                have ha13 := HQ3.out.chg (chg_of_below HB13.out (fun _ => False)) (fun _ _ h => h.elim)
                have hg13 := HQ4.out.thenBelow HB13.out
                have hp13 := HP13.out.grown (below_grown0 HB13.out none) (by simp)
                have hnm2 := Lib.hid (number_q g W13.drew t7 r7 _ _ _ 1000000 (by decide) (by decide) hp13)
                have HC13 := Lib.hid hc13
                have HO13 := Lib.hid ho13
                have HA13 := Lib.hid ha13
                have HG13 := Lib.hid hg13
                have hsz13 := hg13.size
                clear hc13 ho13 ha13 hg13 hp13 HQ1 HQ2 HQ3 HQ4 HP13 HB13 hX
                have hln : (args ++ [t3.n]).length ≤ 7 := by simp; omega
                generalize hgar : args ++ [t3.n] = args3 at *
                generalize hgs : Value.slice (some ⟨kb, 0, none⟩) (args.length + 1) cap = va3 at *
                have hva : ∃ c3, va3 = .slice (some ⟨kb, 0, none⟩) args3.length c3 := ⟨cap, by rw [← hgs, ← hgar]; simp⟩
                clear hgar hgs
                obtain ⟨c3, rfl⟩ := hva
                have x1 := cell_at HC13.out (i := 3) rfl
                refine wp_region_lex (fun w' => w'.cell? ⟨gc, 3, none⟩ = some (.slice (some ⟨kb, 0, none⟩) args3.length c3)) [true, true, true, true, true, true, true, false, false, false, false, false, false, false] (by kernel_rfl) (by kernel_rfl) (fun c a d v w h => by cases d <;> exact h) ?_
                change wpLex _ _ _ _ _ _ _ _ _ (World.drew W13)
                generalize World.drew W13 = V at *
                repeat (first | (refine lex_take x1 rfl (fun w' hw' => by (obtain y1 := hw'; (try go_simp); try rfl)) (fun K hK => ?_); go_simp; refine hK _ _ ?_; clear hK K) | (refine lex_take_on _ _ _ _ x1 rfl rfl rfl rfl (fun w' hw' => by (obtain y1 := hw'; (try go_simp); try rfl)) (fun K hK => ?_); go_simp; refine hK _ _ ?_; clear hK K) | (refine lex_take_off _ _ _ _ _ x1 rfl rfl rfl rfl rfl (fun K hK => ?_); go_simp; refine hK _ _ ?_; clear hK K))
                refine lex_step rfl (fun K hK => ?_)
                rcases hn7 : numberQ 1000000 (t7 :: r7) with ⟨p, x⟩ | ⟨t8, r8⟩
                · have HR2 : Hid (out = .error (p, x)) := Lib.hid (by rw [HR.out]; exact linTail_num HSQ.out HK1.out (by rw [HH.out]; exact hh0) hn7)
                  rw [hn7] at hnm2
                  clear hn7
                  go_wp2_with (go_at_call 100; refine hnm2.out.mono ?_; rintro e w' ⟨he, hg⟩; obtain rfl : e = wrongs p x := he; refine ⟨rfl, ?_⟩; rw [HR2.out]; exact ⟨rfl, HG13.out.trans hg (fun j _ e => Or.inl e)⟩)
                · have HR2 : Hid (out = .ok ((args3 ++ [how, t8.n], scope'), r8)) := Lib.hid (by rw [HR.out, linTail_ok HSQ.out HK1.out (by rw [HH.out]; exact hh0) hn7, HH.out])
                  obtain ⟨hz8, hk8⟩ := numberQ_ok hn7
                  injection hz8 with hz8a hz8b
                  subst hz8a hz8b
                  have HT8 := Lib.hid (HT7.out.tail hk8)
                  rw [hn7] at hnm2
                  have HTK7 : Hid (tokC t7 = [.int .i64 t7.kind, .string ⟨t7.text.toArray⟩, .int .i64 t7.n, .int .i64 t7.at_]) := Lib.hid rfl
                  clear hn7 hk8
                  go_wp2_with (go_at_call 100; refine hnm2.out.mono ?_; rintro e V2 ⟨⟨rfl, hp2⟩, hg2⟩; rw [HTK7.out])
                  have hc2 : ConAt gc V2 kind _ vr _ := hg2.heap HC13.out (fun e => by omega)
                  have z1 := cell_at hc2 (i := 3) rfl
                  have HC2 := Lib.hid hc2
                  have HP2 := Lib.hid hp2
                  have HG2 := Lib.hid (HG13.out.trans hg2 (fun j _ e => Or.inl e))
                  have HO2 := Lib.hid (HO13.out.chg hg2 (fun k hk e => by have := (HO13.out.lt k hk).1; omega))
                  have ha2 := HA13.out.chg hg2 (fun k hk e => by have := (HA13.out.lt k hk).1; omega)
                  have hszv := HG2.out.size
                  have HA2 := Lib.hid (ha2.chg (Chg.alloc0 V2 (.cells #[.int .i64 how, .int .i64 t7.n] 3) (fun _ => False)) (fun _ _ h => h.elim))
                  clear hp2 hg2 hc2 ha2 HC13 HG13 HO13 HA13 x1 hnm2
                  refine hK _ _ z1 ?_
                  clear hK K
                  refine lex_step rfl (fun K hK => ?_)
                  go_wp2_with fail
                  refine hK _ _ z1 ?_
                  clear hK K
                  refine lex_step rfl (fun K hK => ?_)
                  go_wp2_with fail
                  have z2 := cell_kept (below_alloc1 V2 (.cells #[.int .i64 how, .int .i64 t7.n] 3)) z1
                  refine hK _ _ z2 ?_
                  clear hK K
                  refine lex_step rfl (fun K hK => ?_)
                  refine wp_append_lies _ _ _ 32 rfl w.heap.size 3 i0 _ 1 8 Tryz.underlying32 hi hz0 hz1 hz2 rfl (by decide) (.slice (some ⟨kb, 0, none⟩) args3.length c3) args3.length (args3.map (Value.int .i64)) rfl HA2.out ⟨_, 0, none⟩ 2 2 [.int .i64 how, .int .i64 t7.n] rfl rfl (World.news_of_block (cs := #[.int .i64 how, .int .i64 t7.n]) (t := 3) (fr := (0, 0)) (heap_alloc_new V2 _)) (by simp [Value.oneCell']) (by decide) (by simp only [maxLen]; omega) (by omega) (by simp; omega) (V2.heap.size + 1) (by simp) ?_
                  intro ka cap3 V3 hown hgrow hat hlt
                  have hF3 : Chg (fun k => kb = k) V2 V3 := (Chg.alloc0 V2 _ _).trans ((chg_of_grown hgrow).mono (fun j _ h => by simpa [Value.ownBlock] using h)) (fun _ _ h => h)
                  have hc3 : ConAt gc V3 kind (.slice SB scope'.length Sd) vr (.slice (some ⟨kb, 0, none⟩) args3.length c3) := hF3.heap HC2.out (fun e => by omega)
                  have y1 := cell_at hc3 (i := 3) rfl
                  have yf := Lib.frozen_of_heap hc3 3
                  have hka : w.heap.size ≤ ka := by
                    rcases hat with h | h
                    · have h3 : kb = ka := by simpa [Value.ownBlock] using h
                      omega
                    · omega
                  have HOW := Lib.hid (OwnI.snoc (ys := [how, t7.n]) hown (by simp))
                  have HF3 := Lib.hid hF3
                  have HC3 := Lib.hid hc3
                  clear hown hgrow hat hF3 hc3 z1 z2
                  refine hK _ _ y1 ?_
                  clear hK K
                  refine lex_list _ _ _ _ _ rfl (by kernel_rfl) ?_
                  go_wp2
                  go_end0
                  have hF4 : Chg (fun k => kb = k ∨ k = gc) V2 (V3.setCell ⟨gc, 3, none⟩ (.slice (some ⟨ka, 0, none⟩) (args3.length + 2) cap3)) := (HF3.out.mono (fun _ _ h => Or.inl h)).trans (chg_setCell V3 gc 3 _) (fun _ _ h => Or.inr h)
                  refine ⟨?_, HG2.out.trans hF4 (fun j hj e => by
                    rcases e with e | e
                    · omega
                    · exact Or.inr e)⟩
                  rw [HR2.out]
                  refine ⟨.slice SB scope'.length Sd, .slice (some ⟨ka, 0, none⟩) (args3.length + 2) cap3, rfl, ?_, ?_, ?_, hl6, by simp; omega, ?_, HT8.out⟩
                  · have := HC3.out
                    unfold ConAt at this ⊢; simp [World.setCell, Array.getElem?_modify, this]
                  · exact HO2.out.chg hF4 (fun k hk e => by
                      rcases e with e | e
                      · exact HAP8.out k hk (by simp [Value.ownBlock, e])
                      · have := (HO2.out.lt k hk).1; omega)
                  · exact HOW.out.chg (chg_setCell V3 gc 3 _) (fun k hk e => by
                      have h3 : ka = k := by simpa [Value.ownBlock] using hk
                      omega)
                  · exact HP2.out.chg hF4 (fun k hk e => by omega)
              · have HR2 : Hid (out = .error (t6.at_, 3)) := Lib.hid (by rw [HR.out]; exact linTail_word HSQ.out (by rw [HH.out]; exact hgood))
                have hh0b : t6.kind = 1 → decide (0 ≤ how) = false := fun h => by simp; omega
                by_cases hk1 : t6.kind = 1
                · have hk1b : (t6.kind == 1) = true := by simpa using hk1
                  have hhb := hh0b hk1
                  clear hk1 hgood hh0b
                  go_wp2_with (go_at_call 67; refine (must_no _ _ _ _ _ _ _ (by first | rfl | exact hhb)).mono ?_; rintro e W13 ⟨rfl, hb13⟩; refine ⟨rfl, ?_⟩; rw [HR2.out]; exact ⟨rfl, HQ4.out.thenBelow hb13⟩)
                · have hk1b : (t6.kind == 1) = false := by simpa using hk1
                  clear hk1 hgood hh0b
                  go_wp2_with (go_at_call 67; refine (must_no _ _ _ _ _ _ _ (by first | rfl | exact hhb)).mono ?_; rintro e W13 ⟨rfl, hb13⟩; refine ⟨rfl, ?_⟩; rw [HR2.out]; exact ⟨rfl, HQ4.out.thenBelow hb13⟩)
end Go.Proofs.YtgpgmmkkmoecmaaGreatDoor

/- inst.parser: hard. -/
namespace Go.Proofs.YtgpgmmkkmoecmaaGreatDoor
open Go.RowKit
attribute [local irreducible] wpStill wpLex Calls

theorem scopeQ_range {nd : Nat} : ∀ (ts : List Tok) (l l' : List Int) (r : List Tok), scopeQ nd ts l = .ok (l', r) → (∀ v ∈ l, 0 ≤ v ∧ v < nd) → ∀ v ∈ l', 0 ≤ v ∧ v < nd
  | [], l, l', r, h, _ => by simp [scopeQ] at h
  | t :: ts, l, l', r, h, hl => by
    by_cases h0 : l.length = 0 ∨ t.kind = 2
    · cases hv : varQ nd l (t :: ts) with
      | error e => rw [scopeQ_err h0 hv] at h; cases h
      | ok p =>
        rw [scopeQ_ok h0 hv] at h
        refine scopeQ_range ts p.1 l' r h ?_
        obtain ⟨p1, p2⟩ := p
        obtain ⟨_, _, hp, _⟩ := varQ_ok hv
        simp only
        subst hp
        intro v hm
        rcases List.mem_append.1 hm with hm | hm
        · exact hl v hm
        · obtain rfl := List.mem_singleton.1 hm
          rw [varQ] at hv
          rcases numberQ_cases 1000000000000 t ts with ⟨h1, _⟩ | ⟨h1, _⟩ | ⟨h1, _⟩ <;> rw [h1] at hv
          · cases hv
          · cases hv
          · simp only at hv
            split at hv
            · cases hv
            · split at hv
              · rename_i h; exact ⟨h.1, h.2.1⟩
              · cases hv
    · rw [scopeQ, if_pos (by omega)] at h
      injection h with h
      injection h with h _
      exact h ▸ hl
theorem scopeQ_len {nd : Nat} : ∀ (ts : List Tok) (l l' : List Int) (r : List Tok), scopeQ nd ts l = .ok (l', r) → r.length ≤ ts.length
  | [], l, l', r, h => by simp [scopeQ] at h
  | t :: ts, l, l', r, h => by
    by_cases h0 : l.length = 0 ∨ t.kind = 2
    · cases hv : varQ nd l (t :: ts) with
      | error e => rw [scopeQ_err h0 hv] at h; cases h
      | ok p =>
        rw [scopeQ_ok h0 hv] at h
        have := scopeQ_len ts p.1 l' r h
        simp; omega
    · rw [scopeQ, if_pos (by omega)] at h
      injection h with h
      injection h with _ h
      rw [← h]; exact Nat.le_refl _
/-- A constraint's cells, as data. -/
theorem con_K {w : World} {ok : Nat → Prop} {kind : Int} {vs vr va : Value} {scope args : List Int} {rows : List (List Int)} (hs : Sl (Kd.int .i64) w ok vs scope) (hr : Sl kRow w ok vr rows) (ha : Sl (Kd.int .i64) w ok va args) :
    kCon.K w ok ⟨kind, scope, rows, args⟩ [.int .i64 kind, vs, vr, va] :=
  ⟨[_], [_, _, _], rfl, rfl, [_], [_, _], rfl, ⟨_, rfl, hs⟩, [_], [_], rfl, ⟨_, rfl, hr⟩, ⟨_, rfl, ha⟩⟩
theorem OwnD.done {α : Type} {d : Kd α} {E : TypeId} {base B : Nat} {ok : Nat → Prop} {v : Value} {xs : List α} {w : World} (h : OwnD d E base ok v xs w) (hl : xs.length ≤ 140737488355328) (hB : B ≤ base) (hok : ∀ k, ok k → B ≤ k ∧ k < w.heap.size) : Sl d w (fun k => B ≤ k ∧ k < w.heap.size) v xs :=
  (h.sl hl).mono fun k hk => by
    rcases hk with hk | hk
    · exact hok k hk
    · have := h.own k hk; exact ⟨Nat.le_trans hB this.1, this.2.1⟩
theorem hardQ_tab {doms : List (List Int)} {kind : Int} {ts r : List Tok} {scope : List Int} (h6 : ¬ kind = 6) (hs : scopeQ doms.length ts [] = .ok (scope, r)) (h2 : kind ≤ 2) :
    (∀ e, tableQ doms scope r = .error e → hardQ doms kind ts = .error e) ∧ (∀ rows r', tableQ doms scope r = .ok (rows, r') → hardQ doms kind ts = .ok (⟨kind, scope, rows, []⟩, r')) := by
  refine ⟨fun e h => ?_, fun rows r' h => ?_⟩ <;> (rw [hardQ, if_neg h6, hs]; simp only; rw [if_pos h2, h])
def HardOut (g : Nat) (w' : World) (x : Ins) (e : Ending) (c : Con) (r : List Tok) : Prop := e = .returned (.tuple #[]) ∧ PAll g w' r { x with hard := x.hard ++ [c] }

set_option maxRecDepth 100000 in
set_option maxHeartbeats 4000000 in
theorem hard_p (g : Nat) (w : World) (ts : List Tok) (x : Ins) (kind : Int) (h : PAll g w ts x) (hx : x.hard.length ≤ 200) (hd : x.doms.length ≤ 40) (htl : ts.length ≤ 150000)
    (hE : ∃ t fr, w.heap[1]? = some (.cells (howsT.map fun l => Value.string ⟨l.toArray⟩).toArray t fr)) (h8 : 8 ≤ g) :
    Calls Tryz.prog 70 #[.pointer (some ⟨g, 0, none⟩), .int .i64 kind] w fun e w' => Out (hardQ x.doms kind ts) (HardOut g w' x e) e ∧ Below g w w' := by
  obtain ⟨dv, hv, sv, ok, hp, hst, hT⟩ := h
  have hgw := hp.lt
  obtain ⟨DA, Dc, rfl, _, _, _⟩ := hst.D.sl (by omega)
  have hfb : ∀ w', Chg (fun k => g ≤ k) w w' → Below g w w' := fun w' h => h.below (fun k hk e => by omega) (by omega)
  have HFB := Lib.hid hfb
  have hc1 : ConAt w.heap.size (w.alloc (.cells #[.int .i64 kind, .slice none 0 0, .slice none 0 0, .slice none 0 0] 34)) kind (.slice none 0 0) (.slice none 0 0) (.slice none 0 0) := heap_alloc_new w _
  have hF1 : Chg (fun _ => False) w (w.alloc (.cells #[.int .i64 kind, .slice none 0 0, .slice none 0 0, .slice none 0 0] 34)) := Chg.alloc0 w _ _
  have hp1 := hp.alloc (.cells #[.int .i64 kind, .slice none 0 0, .slice none 0 0, .slice none 0 0] 34)
  have hE1 : ∃ t fr, (w.alloc (.cells #[.int .i64 kind, .slice none 0 0, .slice none 0 0, .slice none 0 0] 34)).heap[1]? = some (.cells (howsT.map fun l => Value.string ⟨l.toArray⟩).toArray t fr) := by
    obtain ⟨t, fr, h⟩ := hE
    exact ⟨t, fr, hF1.heap h id⟩
  have HST := Lib.hid hst
  by_cases hk6 : kind = 6
  · have hk6b : (kind == 6) = true := by simpa using hk6
    have hk2b : decide (kind ≤ 2) = false := by simp; omega
    have hlc := Lib.hid (linear_p g w.heap.size _ ts DA x.doms.length Dc hv sv (.slice none 0 0) kind hp1 hT (by omega) hE1 h8 hgw hc1)
    rcases hq : linearQ x.doms.length ts with ⟨p, y⟩ | ⟨⟨args, scope⟩, r⟩
    · have HR : Hid (hardQ x.doms kind ts = .error (p, y)) := Lib.hid (by rw [hardQ, if_pos hk6, hq])
      rw [hq] at hlc
      clear hq hk6 hE hE1 hp hst hT hc1 hp1 hF1 hfb
      go_enter Tryz.func70, Tryz.ntmps70
      go_wp2_with (go_at_call 104; refine hlc.out.mono ?_; rintro e w' ⟨he, hg⟩; obtain rfl : e = wrongs p y := he; refine ⟨rfl, ?_⟩; rw [HR.out]; exact ⟨rfl, HFB.out _ (((Chg.alloc0 w _ (fun _ => False)).mono (fun _ _ h => h.elim)).trans hg (fun j hj e => by omega))⟩)
    · have HR : Hid (hardQ x.doms kind ts = .ok (⟨kind, scope, [], args⟩, r)) := Lib.hid (by rw [hardQ, if_pos hk6, hq])
      rw [hq] at hlc
      clear hq hk6 hE hE1 hp hst hT hc1 hp1 hF1 hfb
      go_enter Tryz.func70, Tryz.ntmps70
      go_wp2_with (go_at_call 104; refine hlc.out.mono ?_; rintro e V0 ⟨⟨vs, va, rfl, hc9, hs9, ha9, hsl9, hal9, hp9, hT9⟩, hg9⟩; (have HC9 := Lib.hid hc9); (have HP9 := Lib.hid hp9); (have HT9 := Lib.hid hT9); obtain ⟨SA9, Sc9, rfl, _, _, _⟩ := hs9.sl (by omega); obtain ⟨AA9, Ac9, rfl, _, _, _⟩ := ha9.sl (by omega); (have HSL := Lib.hid hs9); (have HAL := Lib.hid ha9); (have HG9 := Lib.hid (((Chg.alloc0 w _ (fun _ => False)).mono (fun _ _ h => h.elim)).trans hg9 (fun j hj e => (by rcases e with e | e; exact Or.inl e; exact Or.inr (by omega) : j = g ∨ w.heap.size ≤ j)))); clear hc9 hs9 ha9 hp9 hT9 hg9)
      have hszv := HG9.out.size
      have hs9' : PSt g V0.drew.heap.size V0.drew x (.slice DA x.doms.length Dc) hv sv (fun k => ok k ∨ (w.heap.size ≤ k ∧ k < V0.drew.heap.size)) := (HST.out.chg HG9.out.drew (fun k hk => by omega)).fill hszv hgw
      have HKX := Lib.hid (show kCon.K V0.drew (fun k => ok k ∨ (w.heap.size ≤ k ∧ k < V0.drew.heap.size)) ⟨kind, scope, [], args⟩ [.int .i64 kind, (.slice SA9 scope.length Sc9), (.slice none 0 0), (.slice AA9 args.length Ac9)] from con_K (((HSL.out.done (B := w.heap.size) (by omega) (by simp)).below (by decide) (Below.drew (Below.refl _ _))).mono fun _ h => Or.inr h) ((sl_nil none 0).mono fun _ h => Or.inr h) (((HAL.out.done (B := w.heap.size) (by omega) (by simp)).below (by decide) (Below.drew (Below.refl _ _))).mono fun _ h => Or.inr h))
      obtain ⟨HA9, Hc9, hHv, _, _, _⟩ := hs9'.H.sl (by omega)
      subst hHv
      have HS9 := Lib.hid hs9'
      have HP10 := Lib.hid HP9.out.drew
      have HG10 := Lib.hid HG9.out.drew
      have hc10 : ConAt w.heap.size V0.drew kind _ _ _ := HC9.out
      obtain ⟨A9, n9, c9, hb9, _⟩ := HP10.out
      have x1 := cell_at hb9 (i := 2) rfl
      have x2 := cell_at hc10 (i := 0) rfl
      have x3 := cell_at hc10 (i := 1) rfl
      have x4 := cell_at hc10 (i := 2) rfl
      have x5 := cell_at hc10 (i := 3) rfl
      have HC10 := Lib.hid hc10
      clear hb9 hc10 hs9' HP9 HG9 HC9 HST
      obtain ⟨iC, hiC, hC0, hC1, hC2⟩ := info_parts (show (Tryz.prog.info? 34).map (fun i => (i.zero, i.size, i.bytes)) = some (some (.agg #[.int .i64 0, .slice none 0 0, .slice none 0 0, .slice none 0 0]), 4, 80) by kernel_rfl)
      refine wp_region_lex (fun w' => w'.cell? ⟨g, 2, none⟩ = some (.slice HA9 x.hard.length Hc9) ∧ w'.cell? ⟨w.heap.size, 0, none⟩ = some (.int .i64 kind) ∧ w'.cell? ⟨w.heap.size, 1, none⟩ = some (.slice SA9 scope.length Sc9) ∧ w'.cell? ⟨w.heap.size, 2, none⟩ = some (.slice none 0 0) ∧ w'.cell? ⟨w.heap.size, 3, none⟩ = some (.slice AA9 args.length Ac9)) [true, true, true, true, true, true, true, false, false, false, false, false, false] (by kernel_rfl) (by kernel_rfl) (fun c a d v w h => by cases d <;> exact h) ?_
      change wpLex _ _ _ _ _ _ _ _ _ (World.drew V0)
      have hV : V0.heap.size ≤ (World.drew V0).heap.size := Nat.le_refl _
      generalize World.drew V0 = V at *
      repeat (first | (refine lex_take ⟨x1, x2, x3, x4, x5⟩ rfl (fun w' hw' => by (obtain ⟨y1, y2, y3, y4, y5⟩ := hw'; (try go_simp); try rfl)) (fun K hK => ?_); go_simp; refine hK _ _ ?_; clear hK K) | (refine lex_take_on _ _ _ _ ⟨x1, x2, x3, x4, x5⟩ rfl rfl rfl rfl (fun w' hw' => by (obtain ⟨y1, y2, y3, y4, y5⟩ := hw'; (try go_simp); try rfl)) (fun K hK => ?_); go_simp; refine hK _ _ ?_; clear hK K) | (refine lex_take_off _ _ _ _ _ ⟨x1, x2, x3, x4, x5⟩ rfl rfl rfl rfl rfl (fun K hK => ?_); go_simp; refine hK _ _ ?_; clear hK K))
      refine lex_step rfl (fun K hK => ?_)
      go_wp2_with fail
      have z1 := cell_kept (below_alloc1 V (.cells #[.int .i64 kind, (.slice SA9 scope.length Sc9), (.slice none 0 0), (.slice AA9 args.length Ac9)] 34)) x1
      have z2 := cell_kept (below_alloc1 V (.cells #[.int .i64 kind, (.slice SA9 scope.length Sc9), (.slice none 0 0), (.slice AA9 args.length Ac9)] 34)) x2
      have z3 := cell_kept (below_alloc1 V (.cells #[.int .i64 kind, (.slice SA9 scope.length Sc9), (.slice none 0 0), (.slice AA9 args.length Ac9)] 34)) x3
      have z4 := cell_kept (below_alloc1 V (.cells #[.int .i64 kind, (.slice SA9 scope.length Sc9), (.slice none 0 0), (.slice AA9 args.length Ac9)] 34)) x4
      have z5 := cell_kept (below_alloc1 V (.cells #[.int .i64 kind, (.slice SA9 scope.length Sc9), (.slice none 0 0), (.slice AA9 args.length Ac9)] 34)) x5
      refine hK _ _ ⟨z1, z2, z3, z4, z5⟩ ?_
      clear hK K z1 z2 z3 z4 z5
      have HS11 := Lib.hid (HS9.out.chg (Chg.alloc0 V (.cells #[.int .i64 kind, (.slice SA9 scope.length Sc9), (.slice none 0 0), (.slice AA9 args.length Ac9)] 34) (fun _ => False)) (fun _ h => h.elim))
      have HK11 := Lib.hid (kCon.chg HKX.out (Chg.alloc0 V (.cells #[.int .i64 kind, (.slice SA9 scope.length Sc9), (.slice none 0 0), (.slice AA9 args.length Ac9)] 34) (fun _ => False)) (fun _ _ h => h))
      obtain ⟨css, hcs1, hcs2⟩ := HS11.out.H.open_
      have HCS1 := Lib.hid hcs1
      have HCS2 := Lib.hid hcs2
      have HHO := Lib.hid (fun k hk => HS9.out.H.own k hk)
      clear hcs1 hcs2
      refine lex_step rfl (fun K hK => ?_)
      refine wp_append_lies _ _ _ 27 rfl (g + 1) 34 iC _ 4 80 Tryz.underlying27 hiC hC0 hC1 hC2 rfl (by decide) (.slice HA9 x.hard.length Hc9) x.hard.length css.flatten rfl HCS2.out ⟨_, 0, none⟩ 1 1 [.int .i64 kind, (.slice SA9 scope.length Sc9), (.slice none 0 0), (.slice AA9 args.length Ac9)] rfl rfl (World.news_of_block (cs := #[.int .i64 kind, (.slice SA9 scope.length Sc9), (.slice none 0 0), (.slice AA9 args.length Ac9)]) (t := 34) (fr := (0, 0)) (heap_alloc_new V _)) (by simp [Value.oneCell']) (by decide) (by simp only [maxLen]; omega) (by omega) (by simp; omega) (V.heap.size + 1) (by simp) ?_
      intro kb cap V3 hown hgrow hat hlt
      have hF3 : Chg (fun k => (Value.slice HA9 x.hard.length Hc9).ownBlock = some k) V V3 := (Chg.alloc0 V _ _).trans (chg_of_grown hgrow) (fun _ _ h => h)
      have hs12 := HS11.out.addH (by simp) HCS1.out HK11.out hgrow hown (hat_of hat (by simp))
      have hp12 := HP10.out.chg hF3 (fun k hk e => by have := (HHO.out k e).1; omega)
      have hc12 : ConAt w.heap.size V3 kind _ _ _ := hF3.heap HC10.out (fun e => (HHO.out _ e).2.2 (Or.inr ⟨Nat.le_refl _, by have := lt_of_block HC10.out; omega⟩))
      obtain ⟨A12, n12, c12, hb12, _⟩ := hp12
      have y1 := cell_at hb12 (i := 2) rfl
      have yf := Lib.frozen_of_heap hb12 2
      have y2 := cell_at hc12 (i := 0) rfl
      have y3 := cell_at hc12 (i := 1) rfl
      have y4 := cell_at hc12 (i := 2) rfl
      have y5 := cell_at hc12 (i := 3) rfl
      have HS12 := Lib.hid hs12
      have HP12 := Lib.hid (show PB g V3 r _ _ sv from ⟨A12, n12, c12, hb12, by assumption⟩)
      have HG12 := Lib.hid ((HG10.out.mono (fun j _ h => (by omega : g ≤ j))).trans hF3 (fun j hj e => by have := (HHO.out j e).1; omega))
      clear hown hgrow hat hF3 hs12 hc12 hb12
      refine hK _ _ ⟨y1, y2, y3, y4, y5⟩ ?_
      clear hK K
      refine lex_list _ _ _ _ _ rfl (by kernel_rfl) ?_
      go_wp2
      go_end0
      refine ⟨?_, ?_⟩
      · rw [HR.out]
        exact ⟨rfl, _, _, sv, _, HP12.out.setH _, (HS12.out.chg (chg_setCell V3 g 2 _) (fun k hk => by omega)).later (by rw [Go.Deep.nblk_setCell]; exact Nat.le_refl _), HT9.out⟩
      · exact HFB.out _ (HG12.out.trans (chg_setCell V3 g 2 _) (fun j _ e => by omega))
  · have hk6b : (kind == 6) = false := by simpa using hk6
    have hscp := Lib.hid (scope_p g _ ts DA x.doms.length Dc hv sv hp1 hT (by omega))
    rcases hq : scopeQ x.doms.length ts [] with ⟨p, y⟩ | ⟨scope, r⟩
    · have HR : Hid (hardQ x.doms kind ts = .error (p, y)) := Lib.hid (by rw [hardQ, if_neg hk6, hq])
      rw [hq] at hscp
      clear hq hk6 hE hE1 hp hst hT hc1 hp1 hF1 hfb
      go_enter Tryz.func70, Tryz.ntmps70
      go_wp2_with (go_at_call 101; refine hscp.out.mono ?_; rintro e w' ⟨he, hg⟩; obtain rfl : e = wrongs p y := he; refine ⟨rfl, ?_⟩; rw [HR.out]; exact ⟨rfl, HFB.out _ (((Chg.alloc0 w _ (fun _ => False)).mono (fun _ _ h => h.elim)).trans hg (fun j hj e => by omega))⟩)
    · rw [hq] at hscp
      have HRG := Lib.hid (scopeQ_range ts [] scope r hq (fun v h => by simp at h))
      have hrl := scopeQ_len ts [] scope r hq
      by_cases hk2 : kind ≤ 2
      · have hk2b : decide (kind ≤ 2) = true := by simpa using hk2
        have HQ2 := Lib.hid (hardQ_tab hk6 hq hk2)
        clear hq hk6 hk2 hE hE1 hp hst hT hp1 hF1 hfb
        go_enter Tryz.func70, Tryz.ntmps70
        go_wp2_with (go_at_call 101; refine hscp.out.mono ?_; rintro e V2 ⟨⟨vs, rfl, hs9, hsl9, hsl0, hp9, hT9⟩, hg9⟩; obtain ⟨SA9, Sc9, rfl, _, _, _⟩ := hs9.sl (by omega); (have hc9 : ConAt w.heap.size V2 kind _ _ _ := hg9.heap hc1 (fun e => by omega)); (have x1 := cell_at hc9 (i := 1) rfl); (have xf := Lib.frozen_of_heap hc9 1); (have HC2 := Lib.hid hc9); (have HP2 := Lib.hid hp9); (have HT2 := Lib.hid hT9); (have HSL := Lib.hid hs9); (have HG2 := Lib.hid (((Chg.alloc0 w _ (fun _ => False)).mono (fun _ _ h => h.elim)).trans hg9 (fun j hj e => (by omega : j = g ∨ w.heap.size ≤ j)))); clear hs9 hp9 hT9 hg9 hc9 hc1)
        have hsc2 : w.heap.size + 1 ≤ V2.heap.size := by have := lt_of_block HC2.out; omega
        have hc3 : ConAt w.heap.size (V2.setCell ⟨w.heap.size, 1, none⟩ (.slice SA9 scope.length Sc9)) kind (.slice SA9 scope.length Sc9) (.slice none 0 0) (.slice none 0 0) := by
          have := HC2.out
          unfold ConAt at this ⊢; simp [World.setCell, Array.getElem?_modify, this]
        have hg3 := HG2.out.trans (chg_setCell V2 w.heap.size 1 (.slice SA9 scope.length Sc9)) (fun j _ e => Or.inr (by omega))
        have hp3 := HP2.out.chg (chg_setCell V2 w.heap.size 1 (.slice SA9 scope.length Sc9)) (fun k hk e => by omega)
        have hs3 := HSL.out.chg (chg_setCell V2 w.heap.size 1 (.slice SA9 scope.length Sc9)) (fun k hk e => by have := (HSL.out.lt k hk).1; simp at this; omega)
        have hst3 := HST.out.chg hg3 (fun k hk => by omega)
        have hrc := Lib.hid (rows_p g w.heap.size _ r x.doms DA Dc hv sv (.slice none 0 0) _ _ scope SA9 Sc9 kind hp3 HT2.out (by omega) (hst3.D.sl (by omega)) (fun k hk => by
            rcases hk with hk | hk
            · have := hst3.okg k hk; omega
            · have h1 := hst3.D.own k hk; have h2 := hst3.bD k hk; omega)
          (hs3.sl (by omega)) (fun k hk => by have hk' : (w.alloc (.cells #[.int .i64 kind, .slice none 0 0, .slice none 0 0, .slice none 0 0] 34)).heap.size ≤ k := hk; simp at hk'; omega) hsl9 HRG.out hgw hc3)
        have HG3 := Lib.hid hg3
        have HS3 := Lib.hid hs3
        clear hc3 hg3 hp3 hs3 hst3 HC2 HP2 HT2 HSL HG2 x1 xf
        have hszs : w.heap.size ≤ (V2.setCell ⟨w.heap.size, 1, none⟩ (.slice SA9 scope.length Sc9)).heap.size := HG3.out.size
        generalize V2.setCell ⟨w.heap.size, 1, none⟩ (.slice SA9 scope.length Sc9) = V3 at *
        rcases hq2 : tableQ x.doms scope r with ⟨p, y⟩ | ⟨rows, r2⟩
        · have HR : Hid (hardQ x.doms kind ts = .error (p, y)) := Lib.hid (HQ2.out.1 _ hq2)
          rw [hq2] at hrc
          clear hq2
          go_wp2_with (go_at_call 105; refine hrc.out.mono ?_; rintro e w' ⟨he, hg⟩; obtain rfl : e = wrongs p y := he; refine ⟨rfl, ?_⟩; rw [HR.out]; exact ⟨rfl, HFB.out _ ((HG3.out.mono (fun j _ h => (by omega : g ≤ j))).trans hg (fun j hj e => by omega))⟩)
        · have HR : Hid (hardQ x.doms kind ts = .ok (⟨kind, scope, rows, []⟩, r2)) := Lib.hid (HQ2.out.2 _ _ hq2)
          rw [hq2] at hrc
          clear hq2
          go_wp2_with (go_at_call 105; refine hrc.out.mono ?_; rintro e V0 ⟨⟨rv, ok9, rfl, hc9, ho9, hok9, hp9, hT9, hrl9⟩, hg9⟩; obtain ⟨RA9, Rc9, rfl, _, _, _⟩ := ho9.sl (by omega); (have HC9 := Lib.hid hc9); (have HP9 := Lib.hid hp9); (have HT9 := Lib.hid hT9); (have HSL := Lib.hid (HS3.out.chg hg9 (fun k hk e => by have := (HS3.out.lt k hk).1; simp at this; omega))); (have HOR := Lib.hid ho9); (have HOK := Lib.hid hok9); (have HG9 := Lib.hid (HG3.out.trans hg9 (fun j hj e => (by omega : j = g ∨ w.heap.size ≤ j)))); clear hc9 ho9 hok9 hp9 hT9 hg9)
          have hszv := HG9.out.size
          have hs9' : PSt g V0.drew.heap.size V0.drew x (.slice DA x.doms.length Dc) hv sv (fun k => ok k ∨ (w.heap.size ≤ k ∧ k < V0.drew.heap.size)) := (HST.out.chg HG9.out.drew (fun k hk => by omega)).fill hszv hgw
          have HKX := Lib.hid (show kCon.K V0.drew (fun k => ok k ∨ (w.heap.size ≤ k ∧ k < V0.drew.heap.size)) ⟨kind, scope, rows, []⟩ [.int .i64 kind, (.slice SA9 scope.length Sc9), (.slice RA9 rows.length Rc9), (.slice none 0 0)] from con_K (((HSL.out.done (B := w.heap.size) (by omega) (by simp)).below (by decide) (Below.drew (Below.refl _ _))).mono fun _ h => Or.inr h) (((HOR.out.done (B := w.heap.size) (by omega) hszs (fun k hk => by have := HOK.out k hk; omega)).below (by decide) (Below.drew (Below.refl _ _))).mono fun _ h => Or.inr h) ((sl_nil none 0).mono fun _ h => Or.inr h))
          obtain ⟨HA9, Hc9, hHv, _, _, _⟩ := hs9'.H.sl (by omega)
          subst hHv
          have HS9 := Lib.hid hs9'
          have HP10 := Lib.hid HP9.out.drew
          have HG10 := Lib.hid HG9.out.drew
          have hc10 : ConAt w.heap.size V0.drew kind _ _ _ := HC9.out
          obtain ⟨A9, n9, c9, hb9, _⟩ := HP10.out
          have x1 := cell_at hb9 (i := 2) rfl
          have x2 := cell_at hc10 (i := 0) rfl
          have x3 := cell_at hc10 (i := 1) rfl
          have x4 := cell_at hc10 (i := 2) rfl
          have x5 := cell_at hc10 (i := 3) rfl
          have HC10 := Lib.hid hc10
          clear hb9 hc10 hs9' HP9 HG9 HC9 HST
          obtain ⟨iC, hiC, hC0, hC1, hC2⟩ := info_parts (show (Tryz.prog.info? 34).map (fun i => (i.zero, i.size, i.bytes)) = some (some (.agg #[.int .i64 0, .slice none 0 0, .slice none 0 0, .slice none 0 0]), 4, 80) by kernel_rfl)
          refine wp_region_lex (fun w' => w'.cell? ⟨g, 2, none⟩ = some (.slice HA9 x.hard.length Hc9) ∧ w'.cell? ⟨w.heap.size, 0, none⟩ = some (.int .i64 kind) ∧ w'.cell? ⟨w.heap.size, 1, none⟩ = some (.slice SA9 scope.length Sc9) ∧ w'.cell? ⟨w.heap.size, 2, none⟩ = some (.slice RA9 rows.length Rc9) ∧ w'.cell? ⟨w.heap.size, 3, none⟩ = some (.slice none 0 0)) [true, true, true, true, true, true, true, false, false, false, false, false, false] (by kernel_rfl) (by kernel_rfl) (fun c a d v w h => by cases d <;> exact h) ?_
          change wpLex _ _ _ _ _ _ _ _ _ (World.drew V0)
          have hV : V0.heap.size ≤ (World.drew V0).heap.size := Nat.le_refl _
          generalize World.drew V0 = V at *
          repeat (first | (refine lex_take ⟨x1, x2, x3, x4, x5⟩ rfl (fun w' hw' => by (obtain ⟨y1, y2, y3, y4, y5⟩ := hw'; (try go_simp); try rfl)) (fun K hK => ?_); go_simp; refine hK _ _ ?_; clear hK K) | (refine lex_take_on _ _ _ _ ⟨x1, x2, x3, x4, x5⟩ rfl rfl rfl rfl (fun w' hw' => by (obtain ⟨y1, y2, y3, y4, y5⟩ := hw'; (try go_simp); try rfl)) (fun K hK => ?_); go_simp; refine hK _ _ ?_; clear hK K) | (refine lex_take_off _ _ _ _ _ ⟨x1, x2, x3, x4, x5⟩ rfl rfl rfl rfl rfl (fun K hK => ?_); go_simp; refine hK _ _ ?_; clear hK K))
          refine lex_step rfl (fun K hK => ?_)
          go_wp2_with fail
          have z1 := cell_kept (below_alloc1 V (.cells #[.int .i64 kind, (.slice SA9 scope.length Sc9), (.slice RA9 rows.length Rc9), (.slice none 0 0)] 34)) x1
          have z2 := cell_kept (below_alloc1 V (.cells #[.int .i64 kind, (.slice SA9 scope.length Sc9), (.slice RA9 rows.length Rc9), (.slice none 0 0)] 34)) x2
          have z3 := cell_kept (below_alloc1 V (.cells #[.int .i64 kind, (.slice SA9 scope.length Sc9), (.slice RA9 rows.length Rc9), (.slice none 0 0)] 34)) x3
          have z4 := cell_kept (below_alloc1 V (.cells #[.int .i64 kind, (.slice SA9 scope.length Sc9), (.slice RA9 rows.length Rc9), (.slice none 0 0)] 34)) x4
          have z5 := cell_kept (below_alloc1 V (.cells #[.int .i64 kind, (.slice SA9 scope.length Sc9), (.slice RA9 rows.length Rc9), (.slice none 0 0)] 34)) x5
          refine hK _ _ ⟨z1, z2, z3, z4, z5⟩ ?_
          clear hK K z1 z2 z3 z4 z5
          have HS11 := Lib.hid (HS9.out.chg (Chg.alloc0 V (.cells #[.int .i64 kind, (.slice SA9 scope.length Sc9), (.slice RA9 rows.length Rc9), (.slice none 0 0)] 34) (fun _ => False)) (fun _ h => h.elim))
          have HK11 := Lib.hid (kCon.chg HKX.out (Chg.alloc0 V (.cells #[.int .i64 kind, (.slice SA9 scope.length Sc9), (.slice RA9 rows.length Rc9), (.slice none 0 0)] 34) (fun _ => False)) (fun _ _ h => h))
          obtain ⟨css, hcs1, hcs2⟩ := HS11.out.H.open_
          have HCS1 := Lib.hid hcs1
          have HCS2 := Lib.hid hcs2
          have HHO := Lib.hid (fun k hk => HS9.out.H.own k hk)
          clear hcs1 hcs2
          refine lex_step rfl (fun K hK => ?_)
          refine wp_append_lies _ _ _ 27 rfl (g + 1) 34 iC _ 4 80 Tryz.underlying27 hiC hC0 hC1 hC2 rfl (by decide) (.slice HA9 x.hard.length Hc9) x.hard.length css.flatten rfl HCS2.out ⟨_, 0, none⟩ 1 1 [.int .i64 kind, (.slice SA9 scope.length Sc9), (.slice RA9 rows.length Rc9), (.slice none 0 0)] rfl rfl (World.news_of_block (cs := #[.int .i64 kind, (.slice SA9 scope.length Sc9), (.slice RA9 rows.length Rc9), (.slice none 0 0)]) (t := 34) (fr := (0, 0)) (heap_alloc_new V _)) (by simp [Value.oneCell']) (by decide) (by simp only [maxLen]; omega) (by omega) (by simp; omega) (V.heap.size + 1) (by simp) ?_
          intro kb cap V3 hown hgrow hat hlt
          have hF3 : Chg (fun k => (Value.slice HA9 x.hard.length Hc9).ownBlock = some k) V V3 := (Chg.alloc0 V _ _).trans (chg_of_grown hgrow) (fun _ _ h => h)
          have hs12 := HS11.out.addH (by simp) HCS1.out HK11.out hgrow hown (hat_of hat (by simp))
          have hp12 := HP10.out.chg hF3 (fun k hk e => by have := (HHO.out k e).1; omega)
          have hc12 : ConAt w.heap.size V3 kind _ _ _ := hF3.heap HC10.out (fun e => (HHO.out _ e).2.2 (Or.inr ⟨Nat.le_refl _, by have := lt_of_block HC10.out; omega⟩))
          obtain ⟨A12, n12, c12, hb12, _⟩ := hp12
          have y1 := cell_at hb12 (i := 2) rfl
          have yf := Lib.frozen_of_heap hb12 2
          have y2 := cell_at hc12 (i := 0) rfl
          have y3 := cell_at hc12 (i := 1) rfl
          have y4 := cell_at hc12 (i := 2) rfl
          have y5 := cell_at hc12 (i := 3) rfl
          have HS12 := Lib.hid hs12
          have HP12 := Lib.hid (show PB g V3 r2 _ _ sv from ⟨A12, n12, c12, hb12, by assumption⟩)
          have HG12 := Lib.hid ((HG10.out.mono (fun j _ h => (by omega : g ≤ j))).trans hF3 (fun j hj e => by have := (HHO.out j e).1; omega))
          clear hown hgrow hat hF3 hs12 hc12 hb12
          refine hK _ _ ⟨y1, y2, y3, y4, y5⟩ ?_
          clear hK K
          refine lex_list _ _ _ _ _ rfl (by kernel_rfl) ?_
          go_wp2
          go_end0
          refine ⟨?_, ?_⟩
          · rw [HR.out]
            exact ⟨rfl, _, _, sv, _, HP12.out.setH _, (HS12.out.chg (chg_setCell V3 g 2 _) (fun k hk => by omega)).later (by rw [Go.Deep.nblk_setCell]; exact Nat.le_refl _), HT9.out⟩
          · exact HFB.out _ (HG12.out.trans (chg_setCell V3 g 2 _) (fun j _ e => by omega))
      · have hk2b : decide (kind ≤ 2) = false := by simpa using hk2
        have HR : Hid (hardQ x.doms kind ts = .ok (⟨kind, scope, [], []⟩, r)) := Lib.hid (by rw [hardQ, if_neg hk6, hq]; simp only; rw [if_neg hk2])
        clear hq hk6 hk2 hE hE1 hp hst hT hp1 hF1 hfb
        go_enter Tryz.func70, Tryz.ntmps70
        go_wp2_with (go_at_call 101; refine hscp.out.mono ?_; rintro e V2 ⟨⟨vs, rfl, hs9, hsl9, hsl0, hp9, hT9⟩, hg9⟩; obtain ⟨SA9, Sc9, rfl, _, _, _⟩ := hs9.sl (by omega); (have hc9 : ConAt w.heap.size V2 kind _ _ _ := hg9.heap hc1 (fun e => by omega)); (have x1 := cell_at hc9 (i := 1) rfl); (have xf := Lib.frozen_of_heap hc9 1); (have HC2 := Lib.hid hc9); (have HP2 := Lib.hid hp9); (have HT9 := Lib.hid hT9); (have HSL2 := Lib.hid hs9); (have HG2 := Lib.hid (((Chg.alloc0 w _ (fun _ => False)).mono (fun _ _ h => h.elim)).trans hg9 (fun j hj e => (by omega : j = g ∨ w.heap.size ≤ j)))); clear hs9 hp9 hT9 hg9 hc9 hc1)
        have hc3 : ConAt w.heap.size (V2.setCell ⟨w.heap.size, 1, none⟩ (.slice SA9 scope.length Sc9)) kind (.slice SA9 scope.length Sc9) (.slice none 0 0) (.slice none 0 0) := by
          have := HC2.out
          unfold ConAt at this ⊢; simp [World.setCell, Array.getElem?_modify, this]
        have HG9 := Lib.hid (HG2.out.trans (chg_setCell V2 w.heap.size 1 (.slice SA9 scope.length Sc9)) (fun j _ e => Or.inr (by omega)))
        have HP9 := Lib.hid (HP2.out.chg (chg_setCell V2 w.heap.size 1 (.slice SA9 scope.length Sc9)) (fun k hk e => by omega))
        have HSL := Lib.hid (HSL2.out.chg (chg_setCell V2 w.heap.size 1 (.slice SA9 scope.length Sc9)) (fun k hk e => by have := (HSL2.out.lt k hk).1; simp at this; omega))
        have HC9 := Lib.hid hc3
        clear hc3 HC2 HP2 HSL2 HG2 x1 xf
        generalize V2.setCell ⟨w.heap.size, 1, none⟩ (.slice SA9 scope.length Sc9) = V0 at *
        have hszv := HG9.out.size
        have hs9' : PSt g V0.drew.heap.size V0.drew x (.slice DA x.doms.length Dc) hv sv (fun k => ok k ∨ (w.heap.size ≤ k ∧ k < V0.drew.heap.size)) := (HST.out.chg HG9.out.drew (fun k hk => by omega)).fill hszv hgw
        have HKX := Lib.hid (show kCon.K V0.drew (fun k => ok k ∨ (w.heap.size ≤ k ∧ k < V0.drew.heap.size)) ⟨kind, scope, [], []⟩ [.int .i64 kind, (.slice SA9 scope.length Sc9), (.slice none 0 0), (.slice none 0 0)] from con_K (((HSL.out.done (B := w.heap.size) (by omega) (by simp)).below (by decide) (Below.drew (Below.refl _ _))).mono fun _ h => Or.inr h) ((sl_nil none 0).mono fun _ h => Or.inr h) ((sl_nil none 0).mono fun _ h => Or.inr h))
        obtain ⟨HA9, Hc9, hHv, _, _, _⟩ := hs9'.H.sl (by omega)
        subst hHv
        have HS9 := Lib.hid hs9'
        have HP10 := Lib.hid HP9.out.drew
        have HG10 := Lib.hid HG9.out.drew
        have hc10 : ConAt w.heap.size V0.drew kind _ _ _ := HC9.out
        obtain ⟨A9, n9, c9, hb9, _⟩ := HP10.out
        have x1 := cell_at hb9 (i := 2) rfl
        have x2 := cell_at hc10 (i := 0) rfl
        have x3 := cell_at hc10 (i := 1) rfl
        have x4 := cell_at hc10 (i := 2) rfl
        have x5 := cell_at hc10 (i := 3) rfl
        have HC10 := Lib.hid hc10
        clear hb9 hc10 hs9' HP9 HG9 HC9 HST
        obtain ⟨iC, hiC, hC0, hC1, hC2⟩ := info_parts (show (Tryz.prog.info? 34).map (fun i => (i.zero, i.size, i.bytes)) = some (some (.agg #[.int .i64 0, .slice none 0 0, .slice none 0 0, .slice none 0 0]), 4, 80) by kernel_rfl)
        refine wp_region_lex (fun w' => w'.cell? ⟨g, 2, none⟩ = some (.slice HA9 x.hard.length Hc9) ∧ w'.cell? ⟨w.heap.size, 0, none⟩ = some (.int .i64 kind) ∧ w'.cell? ⟨w.heap.size, 1, none⟩ = some (.slice SA9 scope.length Sc9) ∧ w'.cell? ⟨w.heap.size, 2, none⟩ = some (.slice none 0 0) ∧ w'.cell? ⟨w.heap.size, 3, none⟩ = some (.slice none 0 0)) [true, true, true, true, true, true, true, false, false, false, false, false, false] (by kernel_rfl) (by kernel_rfl) (fun c a d v w h => by cases d <;> exact h) ?_
        change wpLex _ _ _ _ _ _ _ _ _ (World.drew V0)
        have hV : V0.heap.size ≤ (World.drew V0).heap.size := Nat.le_refl _
        generalize World.drew V0 = V at *
        repeat (first | (refine lex_take ⟨x1, x2, x3, x4, x5⟩ rfl (fun w' hw' => by (obtain ⟨y1, y2, y3, y4, y5⟩ := hw'; (try go_simp); try rfl)) (fun K hK => ?_); go_simp; refine hK _ _ ?_; clear hK K) | (refine lex_take_on _ _ _ _ ⟨x1, x2, x3, x4, x5⟩ rfl rfl rfl rfl (fun w' hw' => by (obtain ⟨y1, y2, y3, y4, y5⟩ := hw'; (try go_simp); try rfl)) (fun K hK => ?_); go_simp; refine hK _ _ ?_; clear hK K) | (refine lex_take_off _ _ _ _ _ ⟨x1, x2, x3, x4, x5⟩ rfl rfl rfl rfl rfl (fun K hK => ?_); go_simp; refine hK _ _ ?_; clear hK K))
        refine lex_step rfl (fun K hK => ?_)
        go_wp2_with fail
        have z1 := cell_kept (below_alloc1 V (.cells #[.int .i64 kind, (.slice SA9 scope.length Sc9), (.slice none 0 0), (.slice none 0 0)] 34)) x1
        have z2 := cell_kept (below_alloc1 V (.cells #[.int .i64 kind, (.slice SA9 scope.length Sc9), (.slice none 0 0), (.slice none 0 0)] 34)) x2
        have z3 := cell_kept (below_alloc1 V (.cells #[.int .i64 kind, (.slice SA9 scope.length Sc9), (.slice none 0 0), (.slice none 0 0)] 34)) x3
        have z4 := cell_kept (below_alloc1 V (.cells #[.int .i64 kind, (.slice SA9 scope.length Sc9), (.slice none 0 0), (.slice none 0 0)] 34)) x4
        have z5 := cell_kept (below_alloc1 V (.cells #[.int .i64 kind, (.slice SA9 scope.length Sc9), (.slice none 0 0), (.slice none 0 0)] 34)) x5
        refine hK _ _ ⟨z1, z2, z3, z4, z5⟩ ?_
        clear hK K z1 z2 z3 z4 z5
        have HS11 := Lib.hid (HS9.out.chg (Chg.alloc0 V (.cells #[.int .i64 kind, (.slice SA9 scope.length Sc9), (.slice none 0 0), (.slice none 0 0)] 34) (fun _ => False)) (fun _ h => h.elim))
        have HK11 := Lib.hid (kCon.chg HKX.out (Chg.alloc0 V (.cells #[.int .i64 kind, (.slice SA9 scope.length Sc9), (.slice none 0 0), (.slice none 0 0)] 34) (fun _ => False)) (fun _ _ h => h))
        obtain ⟨css, hcs1, hcs2⟩ := HS11.out.H.open_
        have HCS1 := Lib.hid hcs1
        have HCS2 := Lib.hid hcs2
        have HHO := Lib.hid (fun k hk => HS9.out.H.own k hk)
        clear hcs1 hcs2
        refine lex_step rfl (fun K hK => ?_)
        refine wp_append_lies _ _ _ 27 rfl (g + 1) 34 iC _ 4 80 Tryz.underlying27 hiC hC0 hC1 hC2 rfl (by decide) (.slice HA9 x.hard.length Hc9) x.hard.length css.flatten rfl HCS2.out ⟨_, 0, none⟩ 1 1 [.int .i64 kind, (.slice SA9 scope.length Sc9), (.slice none 0 0), (.slice none 0 0)] rfl rfl (World.news_of_block (cs := #[.int .i64 kind, (.slice SA9 scope.length Sc9), (.slice none 0 0), (.slice none 0 0)]) (t := 34) (fr := (0, 0)) (heap_alloc_new V _)) (by simp [Value.oneCell']) (by decide) (by simp only [maxLen]; omega) (by omega) (by simp; omega) (V.heap.size + 1) (by simp) ?_
        intro kb cap V3 hown hgrow hat hlt
        have hF3 : Chg (fun k => (Value.slice HA9 x.hard.length Hc9).ownBlock = some k) V V3 := (Chg.alloc0 V _ _).trans (chg_of_grown hgrow) (fun _ _ h => h)
        have hs12 := HS11.out.addH (by simp) HCS1.out HK11.out hgrow hown (hat_of hat (by simp))
        have hp12 := HP10.out.chg hF3 (fun k hk e => by have := (HHO.out k e).1; omega)
        have hc12 : ConAt w.heap.size V3 kind _ _ _ := hF3.heap HC10.out (fun e => (HHO.out _ e).2.2 (Or.inr ⟨Nat.le_refl _, by have := lt_of_block HC10.out; omega⟩))
        obtain ⟨A12, n12, c12, hb12, _⟩ := hp12
        have y1 := cell_at hb12 (i := 2) rfl
        have yf := Lib.frozen_of_heap hb12 2
        have y2 := cell_at hc12 (i := 0) rfl
        have y3 := cell_at hc12 (i := 1) rfl
        have y4 := cell_at hc12 (i := 2) rfl
        have y5 := cell_at hc12 (i := 3) rfl
        have HS12 := Lib.hid hs12
        have HP12 := Lib.hid (show PB g V3 r _ _ sv from ⟨A12, n12, c12, hb12, by assumption⟩)
        have HG12 := Lib.hid ((HG10.out.mono (fun j _ h => (by omega : g ≤ j))).trans hF3 (fun j hj e => by have := (HHO.out j e).1; omega))
        clear hown hgrow hat hF3 hs12 hc12 hb12
        refine hK _ _ ⟨y1, y2, y3, y4, y5⟩ ?_
        clear hK K
        refine lex_list _ _ _ _ _ rfl (by kernel_rfl) ?_
        go_wp2
        go_end0
        refine ⟨?_, ?_⟩
        · rw [HR.out]
          exact ⟨rfl, _, _, sv, _, HP12.out.setH _, (HS12.out.chg (chg_setCell V3 g 2 _) (fun k hk => by omega)).later (by rw [Go.Deep.nblk_setCell]; exact Nat.le_refl _), HT9.out⟩
        · exact HFB.out _ (HG12.out.trans (chg_setCell V3 g 2 _) (fun j _ e => by omega))
end Go.Proofs.YtgpgmmkkmoecmaaGreatDoor
