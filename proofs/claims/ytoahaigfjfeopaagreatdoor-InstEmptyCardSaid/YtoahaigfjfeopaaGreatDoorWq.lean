/- scan.All. -/
import Derived.Test.YtoahaigfjfeopaaGreatDoorWp
import Derived.ScopeJumps
import Derived.Scope
import Derived.LoopTactic
import Derived.Deep.OwnRows
import Derived.Maps.AppendAt
import Derived.Deep.AppendLies
import Derived.Laws.BytesArg
namespace Go.Proofs.YtoahaigfjfeopaaGreatDoor
open Go.RowKit

/-- A row of tokens. -/
abbrev kTok : Kd Tok := Kd.iso (Kd.pair (Kd.int .i64) (Kd.pair Kd.str (Kd.pair (Kd.int .i64) (Kd.int .i64)))) (fun t => (t.kind, ⟨t.text.toArray⟩, t.n, t.at_))
def tokC (t : Tok) : List Value := [.int .i64 t.kind, .string ⟨t.text.toArray⟩, .int .i64 t.n, .int .i64 t.at_]
theorem kTok_mk {w : World} {ok : Nat → Prop} (t : Tok) : kTok.K w ok t (tokC t) := ⟨[_], [_, _, _], rfl, rfl, [_], [_, _], rfl, rfl, [_], [_], rfl, rfl, rfl⟩

/-- A row of the call's own, of elements that lead nowhere: the tokens that are told so far. -/
def OwnTok (base : Nat) (v : Value) (ts : List Tok) (w : World) : Prop := w.ownsRow base 83 4 v ts.length (ts.flatMap tokC)
theorem flat_tok (ts : List Tok) : ∀ (j : Nat) (t : Tok), ts[j]? = some t → ∀ i u, (tokC t)[i]? = some u → (ts.flatMap tokC)[j * 4 + i]? = some u := by
  induction ts with
  | nil => intro j t h; simp at h
  | cons a r ih =>
    intro j t h i u hu
    rw [List.flatMap_cons]
    cases j with
    | zero =>
      simp at h; subst h
      have hi : i < (tokC a).length := (List.getElem?_eq_some_iff.1 hu).1
      rw [Nat.zero_mul, Nat.zero_add, List.getElem?_append_left hi]; exact hu
    | succ j =>
      simp at h
      rw [List.getElem?_append_right (by simp [tokC]; omega), show (j + 1) * 4 + i - (tokC a).length = j * 4 + i by simp [tokC]; omega]
      exact ih j t h i u hu
theorem OwnTok.sl {base : Nat} {v : Value} {ts : List Tok} {w : World} (h : OwnTok base v ts w) (hl : ts.length ≤ 140737488355328) : Sl kTok w (base ≤ ·) v ts := by
  rcases h.2 with ⟨rfl, h0⟩ | ⟨g, cap, cur, rfl, hb, hg, hnc, hcm, hcs, ht⟩
  · obtain rfl : ts = [] := List.eq_nil_of_length_eq_zero h0
    exact ⟨none, 0, rfl, Nat.le_refl _, by simp, fun j x hx => by simp at hx⟩
  · refine ⟨_, cap, rfl, hnc, hl, fun j t hj => ⟨g, 0, tokC t, rfl, hb, kTok_mk t, fun i u hu => ?_⟩⟩
    have hc := h.cells (g := g) rfl (j * 4 + i) u (flat_tok ts j t hj i u hu)
    have e : (⟨g, 0, none⟩ : Addr).add (j * 4 + i) = ⟨g, 0 + (j * 4 + i), none⟩ := by unfold Addr.add; split <;> simp_all
    rw [e] at hc
    exact hc

theorem own_lower {w : World} {base base' : Nat} {e : TypeId} {size n : Nat} {v : Value} {xs : List Value} (h : w.ownsRow base e size v n xs) (hb : base' ≤ base) : w.ownsRow base' e size v n xs := by
  obtain ⟨h1, h2⟩ := h
  refine ⟨h1, ?_⟩
  rcases h2 with h2 | ⟨g, cap, cur, hv, hg, r⟩
  · exact .inl h2
  · exact .inr ⟨g, cap, cur, hv, Nat.le_trans hb hg, r⟩
theorem own_below {w w1 : World} {base : Nat} {e : TypeId} {size n : Nat} {v : Value} {xs : List Value} (h : w.ownsRow base e size v n xs) (hb : Below w.heap.size w w1) : w1.ownsRow base e size v n xs :=
  h.kept (row := none) ⟨hb.os, hb.tape, hb.output, hb.size, fun k hk _ => hb.block k hk⟩ (by cases v.ownBlock <;> simp)
theorem tok_snoc (ts : List Tok) (t : Tok) : (ts ++ [t]).flatMap tokC = ts.flatMap tokC ++ tokC t := by simp
theorem tok_one (t : Tok) : ∀ u ∈ tokC t, u.oneCell' = true := fun u hu => kTok.one (w := default) (ok := fun _ => True) (kTok_mk t) u hu
/-- A struct stored into a block of its own: the world behind it by its facts alone. -/
theorem wpList_store_abs {P : Program} {ops : Array Oper} {rest : List Oper} {o : Oper} {a : Act} {w : World} {Q : Exit → Act → World → Prop} (hgd : o.guard = none) (ty : TypeId) (x y : Operand) (ho : o.op = .store ty x y)
    (g : Nat) (cells : Array Value) (hx : a.eval x = .pointer (some ⟨g, 0, none⟩)) (hy : a.eval y = .agg cells)
    (t : TypeId) (old : Array Value) (hg : w.heap[g]? = some (.cells old t (0, 0))) (hi : (P.info? ty).map (·.size) = some cells.size)
    (hold : old.size = cells.size) (h1 : cells.all (·.oneCell') = true)
    (h : ∀ W, W.heap[g]? = some (.cells cells t (0, 0)) → w.grownBy W (some g) → wpList P ops Q rest (a.put o.dst undef) W) : wpList P ops Q (o :: rest) a w := by
  refine wpList_store_row hgd ty x y ho g cells hx hy t old hg hi hold h1 (h _ ?_ ?_)
  · simp [World.setRow, Array.getElem?_modify, hg]
  · refine ⟨rfl, rfl, rfl, by simp [World.setRow], fun k _ hk => ?_⟩
    simp only [World.setRow, Array.getElem?_modify]
    rw [if_neg (fun e => hk (by rw [e]))]
theorem own_ne {w : World} {base : Nat} {e : TypeId} {size n : Nat} {v : Value} {xs : List Value} (h : w.ownsRow base e size v n xs) {g : Nat} (hg : g < base) : v.ownBlock = none ∨ v.ownBlock ≠ some g := by
  cases hv : v.ownBlock with
  | none => exact .inl rfl
  | some k => exact .inr fun e => by injection e with e; have := (h.lt k hv).1; omega
theorem Below.grownAt {B : Nat} {a w w' : World} {g : Nat} (h : Below B a w) (hg : w.grownBy w' (some g)) (hw : B ≤ w.heap.size) (hB : B ≤ g) : Below B a w' :=
  h.grown hg hw (fun k hk => by injection hk with hk; omega)
theorem grown_setCell3 (W : World) (g i : Nat) (v : Value) : W.grownBy (W.setCell ⟨g, i, none⟩ v) (some g) :=
  ⟨rfl, rfl, rfl, by simp [World.setCell], fun k _ hk => Go.Deep.blk_setCell_other _ _ _ _ (fun e => hk (by rw [e]))⟩
theorem heap_setCell3 {W : World} {g : Nat} {a b c d : Value} {t : TypeId} (h : W.heap[g]? = some (.cells #[a, b, c, d] t (0, 0))) (x : Value) : (W.setCell ⟨g, 3, none⟩ x).heap[g]? = some (.cells #[a, b, c, x] t (0, 0)) := by
  simp [World.setCell, Array.getElem?_modify, h]
theorem preP_nil (x : Except (Nat × Int) (List Tok)) : preP [] x = x := by cases x <;> rfl
theorem wp_scope_jumps2 {P : Program} {a : Act} {w : World} {Q : Exit → Act → World → Prop} {c rest : Code} (l : Nat) (J : Act → World → Prop) (μ : Act → World → Nat) (hf : findLabel c l = some (Code.seq Code.skip rest))
    (pass : ∀ a w, J a w → rest.wp P (Exit.jump l (fun a' w' => J a' w' ∧ μ a' w' < μ a w) Q) a w)
    (first : (∀ a w, J a w → rest.wp P (Exit.jump l J Q) a w) → c.wp P (Exit.jump l J Q) a w) : (Code.scope c).wp P Q a w :=
  wp_scope_jumps l J μ hf (first fun a w h => wp_mono (pass a w h) fun e a' w' hq => by
    cases e with
    | goto l' => exact ⟨hq.1, hq.2.1⟩
    | _ => exact hq) fun a w h => wp_seq (wp_skip (pass a w h))

set_option maxRecDepth 100000 in
set_option maxHeartbeats 10000000 in
theorem all_any (l : List UInt8) (w : World) (hE : Env0 w) (h8 : 8 ≤ w.heap.size) (hl : l.length ≤ 140737488355328) : Calls Tryz.prog 44 #[.string ⟨l.toArray⟩] w fun e w' =>
    (match allP l with
      | .ok ts => ∃ v, e = .returned (.tuple #[v, .int .i64 0, .int .i64 0]) ∧ OwnTok w.heap.size v ts w' ∧ ts.length ≤ 100001
      | .error (p, x) => e = .returned (.tuple #[.slice none 0 0, .int .i64 p, .int .i64 x])) ∧ Below w.heap.size w w' := by
  by_cases hbig : 100000 < l.length
  · have hP : allP l = .error (0, 7) := by unfold allP; rw [if_pos hbig]
    rw [hP]
    go_enter Tryz.func44, Tryz.ntmps44
    go_wp2
    refine wp_scope_straight ?_
    go_wp2
    rw [Exit.noGoto_ret]
    go_ret3
    exact ⟨rfl, Below.refl _ _⟩
  · have hsm : l.length ≤ 100000 := by omega
    have hP : allP l = scanQ 0 l := by unfold allP scanQ; rw [if_neg hbig]
    have HP := Lib.hid hP
    have HE := Lib.hid hE
    clear hP hbig hE
    go_enter Tryz.func44, Tryz.ntmps44
    go_wp2
    refine wp_scope_jumps2 0 (fun a' wr => ∃ (P K : Int) (q : Nat) (ts : List Tok) (v : Value) (x0 : Int) (x1 : ByteArray) (x2 x3 : Int) (u7 u8 u9 u10 u11 u12 u13 u14 u15 u16 u17 u18 u19 u20 u21 u22 u23 u24 u25 u26 u27 u28 u29 u30 u31 u32 u33 u34 u35 u36 u37 u38 u39 u40 u41 u42 u43 u44 u45 u46 : Value), a' = { tmps := #[.string ⟨l.toArray⟩, undef, v, .int .i64 P, .int .i64 0, .pointer (some ⟨w.heap.size, 0, none⟩), .int .i64 K, u7, u8, u9, u10, u11, u12, u13, u14, u15, u16, u17, u18, u19, u20, u21, u22, u23, u24, u25, u26, u27, u28, u29, u30, u31, u32, u33, u34, u35, u36, u37, u38, u39, u40, u41, u42, u43, u44, u45, u46], defers := [] } ∧ 0 ≤ P ∧ 0 ≤ K ∧ Hid (P + K = q) ∧ q ≤ l.length ∧ ts.length ≤ q ∧ Hid (allP l = preP ts (scanQ q (l.drop q))) ∧ Hid (OwnTok (w.heap.size + 1) v ts wr) ∧ Hid (wr.heap[w.heap.size]? = some (.cells #[.int .i64 x0, .string x1, .int .i64 x2, .int .i64 x3] 83 (0, 0))) ∧ Hid (Below w.heap.size w wr)) (fun a' _ => l.length - ((intOf (a'.tmps.getD 3 undef)).toNat + (intOf (a'.tmps.getD 6 undef)).toNat)) rfl ?_ ?_
    · rintro a' wr ⟨P, K, q, ts, v, x0, x1, x2, x3, u7, u8, u9, u10, u11, u12, u13, u14, u15, u16, u17, u18, u19, u20, u21, u22, u23, u24, u25, u26, u27, u28, u29, u30, u31, u32, u33, u34, u35, u36, u37, u38, u39, u40, u41, u42, u43, u44, u45, u46, rfl, hP0, hK0, HQ, hql, htl, H, HO, HX, HB⟩
      obtain ⟨i0, hi, hz0, hz1, hz2⟩ := info_parts (show (Tryz.prog.info? 83).map (fun i => (i.zero, i.size, i.bytes)) = some (some (.agg #[.int .i64 0, .string ⟨#[]⟩, .int .i64 0, .int .i64 0]), 4, 40) by kernel_rfl)
      have hwb : w.heap.size + 1 ≤ wr.heap.size := by have := lt_of_block HX.out; omega
      by_cases hend : q = l.length
      · have hq : P + K = (l.length : Int) := by rw [HQ.out, hend]
        have HF : Hid (allP l = .ok (ts ++ [⟨4, [], 0, l.length⟩])) := Lib.hid (by rw [H.out, hend, List.drop_length, scanQ_nil]; rfl)
        clear hend H
        go_wp2_with (at_builtin; refine wpList_append_own_at _ rfl _ _ 74 rfl (w.heap.size + 1) 83 i0 _ 4 40 Tryz.underlying74 hi hz0 hz1 hz2 rfl (by decide) _ _ _ rfl (HO.out.alloc _) ⟨wr.heap.size, 0, none⟩ 1 1 (tokC ⟨4, [], 0, l.length⟩) rfl rfl ?c1 ?c2 ?c3 ?c4 ?c5 ?_)
        case c1 => exact World.news_of_block (cs := (tokC ⟨4, [], 0, l.length⟩).toArray) (t := 83) (fr := (0, 0)) (heap_alloc_new wr _)
        case c2 => exact tok_one _
        case c3 => unfold maxLen; omega
        case c4 => omega
        case c5 => simp; omega
        intro v' w2 hown' hgrow _ _
        have HO2 := Lib.hid hown'
        have HB2 := Lib.hid (((HB.out.alloc (by omega) _).grown hgrow (by simp; omega) (fun k hk => by have := (HO.out.lt k hk).1; omega)))
        clear hown' hgrow
        go_wp2
        simp only [Exit.jump]
        go_ret3
        rw [HF.out]
        refine ⟨⟨v', rfl, ?_, by rw [List.length_append]; simp; omega⟩, HB2.out⟩
        have := own_lower HO2.out (show w.heap.size ≤ w.heap.size + 1 by omega)
        unfold OwnTok
        rw [tok_snoc, List.length_append]
        exact this
      · have hlt : q < l.length := by omega
        clear hend
        obtain ⟨c, r, hcr⟩ : ∃ c r, l.drop q = c :: r := by
          cases hd : l.drop q with
          | nil => have := congrArg List.length hd; rw [List.length_drop] at this; simp at this; omega
          | cons c r => exact ⟨c, r, rfl⟩
        have hex : (ByteArray.mk l.toArray).extract q l.length = ByteArray.mk (c :: r).toArray := by rw [extract_drop, hcr]
        have hcl : (c :: r).length + q = l.length := by rw [← hcr, List.length_drop]; omega
        have hcl1 : (c :: r).length ≤ 140737488355328 := by omega
        have hleft := Lib.hid (left_any c r wr hcl1)
        have hlle := leftP_le (c :: r)
        have hql2 : q ≤ l.length := by omega
        rw [hcr] at H
        have hdrop : ∀ k, (c :: r).drop k = l.drop (q + k) := fun k => by rw [← hcr, List.drop_drop]
        have HD := Lib.hid hdrop
        have hqq : (0 : Int) ≤ q := by omega
        have hPK := HQ.out
        clear hcr hdrop
        by_cases h0 : 0 < leftP (c :: r)
        · have hst := Lib.hid (scanQ_left q (c :: r) (by simp) h0)
          have hqk : q + leftP (c :: r) ≤ l.length := by omega
          have hlen2 : (c :: r).length ≤ l.length := by omega
          generalize leftP (c :: r) = k at *
          generalize c :: r = m at *
          go_wp2_with (first
            | (go_at_call 67; refine hleft.out.mono ?_; rintro e w' ⟨rfl, rfl⟩))
          go_step3
          refine ⟨rfl, ⟨q, k, q + k, ts, v, x0, x1, x2, x3, _, _, _, _, _, _, _, _, _, _, _, _, _, _, _, _, _, _, _, _, _, _, _, _, _, _, _, _, _, _, _, _, _, _, _, _, _, _, _, _, rfl, hqq, by omega, Lib.hid (by omega), hqk, by omega, Lib.hid (by rw [H.out, hst.out, HD.out]), HO, HX, HB⟩, ?_⟩
          simp [intOf]; omega
        · have hE1 := HE.out.below HB.out h8
          have h81 := Nat.le_trans h8 HB.out.size
          have hl0 : leftP (c :: r) = 0 := by omega
          have hne : (c :: r) ≠ [] := by simp
          rw [hl0] at hleft
          cases htok : tokenP (c :: r) with
          | error x =>
            have HF : Hid (allP l = .error (q, x)) := Lib.hid (by rw [H.out, scanQ_bad q (c :: r) hne h0 htok]; rfl)
            have htk := Lib.hid (token_err c r wr hE1 h81 hcl1 htok)
            have hx0 : ((x : Int) != 0) = true := by rcases tokenP_err htok with h | h <;> (rw [h]; decide)
            clear H htok hE1 h81 hlle h0 hl0 hne HD
            generalize c :: r = m at *
            go_wp2_with (go_at_call 67; refine hleft.out.mono ?_; rintro e w' ⟨rfl, rfl⟩)
            refine htk.out.mono ?_
            rintro e w3 ⟨⟨k0, t0, n0, a0, rfl⟩, hb⟩
            have hblk := Lib.hid (block_kept hb HX.out)
            have hB3 := Lib.hid (HB.out.trans (hb.mono HB.out.size))
            have hs3 : w.heap.size + 1 ≤ w3.heap.size := by have := hb.size; omega
            clear hb hleft htk
            have hone : Hid ((#[.int .i64 k0, .string t0, .int .i64 n0, .int .i64 a0] : Array Value).all (·.oneCell') = true) := Lib.hid (by simp [Value.oneCell'])
            have hinf : Hid ((Tryz.prog.info? 83).map (·.size) = some (#[.int .i64 k0, .string t0, .int .i64 n0, .int .i64 a0] : Array Value).size) := Lib.hid (by rw [hi]; simp [hz1])
            go_wp2_with (refine wpList_store_abs rfl 83 _ _ rfl w.heap.size #[.int .i64 k0, .string t0, .int .i64 n0, .int .i64 a0] rfl rfl 83 _ hblk.out hinf.out rfl hone.out ?_)
            intro W hW hg4
            have hB4 := Lib.hid (Below.grownAt hB3.out hg4 (by omega) (Nat.le_refl _))
            clear hW hg4 hblk hB3 hs3
            go_wp2
            simp only [Exit.jump]
            go_ret3
            rw [HF.out]
            exact ⟨rfl, hB4.out⟩
          | ok tk =>
            obtain ⟨⟨tk, tt, tn, ta⟩, k⟩ := tk
            have hks := tokenP_size htok
            have hst := Lib.hid (scanQ_tok q (c :: r) hne h0 htok)
            have htk0 := token_ok c r wr hE1 h81 hcl1 htok
            dsimp only at htk0
            obtain ⟨hk0, hkl⟩ := hks
            have hqk : q + k ≤ l.length := by omega
            clear htok hE1 h81 hlle h0 hl0 hne
            generalize c :: r = m at *
            have hC : Hid (tokC ⟨tk, tt, tn, q⟩ = [.int .i64 tk, .string (ByteArray.mk tt.toArray), .int .i64 tn, .int .i64 q]) := Lib.hid rfl
            generalize htb : (ByteArray.mk tt.toArray) = tb at htk0 hC
            clear htb
            have htk := Lib.hid htk0
            clear htk0
            go_wp2_with (go_at_call 67; refine hleft.out.mono ?_; rintro e w' ⟨rfl, rfl⟩)
            refine htk.out.mono ?_
            rintro e w3 ⟨rfl, hb⟩
            have hblk := Lib.hid (block_kept hb HX.out)
            have hO3 := Lib.hid (own_below HO.out hb)
            have hB3 := Lib.hid (HB.out.trans (hb.mono HB.out.size))
            have hs3 : w.heap.size + 1 ≤ w3.heap.size := by have := hb.size; omega
            clear hb hleft htk
            have hone : Hid ((#[.int .i64 tk, .string tb, .int .i64 tn, .int .i64 ta] : Array Value).all (·.oneCell') = true) := Lib.hid (by simp [Value.oneCell'])
            have hinf : Hid ((Tryz.prog.info? 83).map (·.size) = some (#[.int .i64 tk, .string tb, .int .i64 tn, .int .i64 ta] : Array Value).size) := Lib.hid (by rw [hi]; simp [hz1])
            go_wp2_with (go_loud (refine wpList_store_abs rfl 83 _ _ rfl w.heap.size #[.int .i64 tk, .string tb, .int .i64 tn, .int .i64 ta] rfl rfl 83 _ hblk.out hinf.out rfl hone.out ?_))
            intro W hW hg4
            have c0 := cell_at hW (i := 0) rfl
            have c1 := cell_at hW (i := 1) rfl
            have c2 := cell_at hW (i := 2) rfl
            have c3 := cell_at hW (i := 3) rfl
            have f3 := Lib.frozen_of_heap hW 3
            have hO4 := Lib.hid (hO3.out.kept hg4 (own_ne hO3.out (by omega)))
            have hB4 := Lib.hid (Below.grownAt hB3.out hg4 (by omega) (Nat.le_refl _))
            have hs4 : w.heap.size + 1 ≤ W.heap.size := Nat.le_trans hs3 hg4.size
            have hX5 := Lib.hid (heap_setCell3 hW (.int .i64 q))
            have hO5 := Lib.hid (hO4.out.kept (grown_setCell3 W w.heap.size 3 (.int .i64 q)) (own_ne hO4.out (by omega)))
            have hB5 := Lib.hid (Below.grownAt hB4.out (grown_setCell3 W w.heap.size 3 (.int .i64 q)) (by omega) (Nat.le_refl _))
            have hs5 : w.heap.size + 1 ≤ (W.setCell ⟨w.heap.size, 3, none⟩ (.int .i64 q)).heap.size := by rw [Go.Deep.nblk_setCell]; exact hs4
            have hS5 := Lib.hid hs5
            clear hW hg4 hblk hO3 hB3 hs3 hO4 hB4 hs5
            go_wp2_with (at_builtin; (refine wpList_append_own_at _ rfl _ _ 74 rfl (w.heap.size + 1) 83 i0 _ 4 40 Tryz.underlying74 hi hz0 hz1 hz2 rfl (by decide) _ ts.length (ts.flatMap tokC) rfl ?c0 ⟨_, 0, none⟩ 1 1 [.int .i64 tk, .string tb, .int .i64 tn, .int .i64 q] rfl rfl ?c1 ?c2 ?c3 ?c4 ?c5 ?_))
            case c0 => exact hO5.out.alloc _
            case c1 =>
              have hn := World.news_of_block (cs := #[.int .i64 tk, .string tb, .int .i64 tn, .int .i64 q]) (t := 83) (fr := (0, 0)) (heap_alloc_new (W.setCell ⟨w.heap.size, 3, none⟩ (.int .i64 q)) _)
              rw [Go.Deep.nblk_setCell] at hn
              exact hn
            case c2 => simp [Value.oneCell']
            case c3 => unfold maxLen; omega
            case c4 => omega
            case c5 => have := hS5.out; simp only [World.alloc, Array.size_push]; omega
            intro v' w2 hown' hgrow _ _
            have hne5 := own_ne hO5.out (show w.heap.size < w.heap.size + 1 by omega)
            have HO2 := Lib.hid hown'
            have HB2 := Lib.hid (((hB5.out.alloc (by have := hS5.out; omega) _).grown hgrow (by have := hS5.out; simp only [World.alloc, Array.size_push]; omega) (fun k hk => by have := (hO5.out.lt k hk).1; omega)))
            have HX2 : Hid (w2.heap[w.heap.size]? = some (.cells #[.int .i64 tk, .string tb, .int .i64 tn, .int .i64 q] 83 (0, 0))) := Lib.hid ((hgrow.block w.heap.size (by have := hS5.out; simp only [World.alloc, Array.size_push]; omega) (by rcases hne5 with h | h; rw [h]; simp; exact fun e => h e.symm)).trans (block_kept (below_alloc1 _ _) hX5.out))
            clear hown' hgrow
            go_wp2
            go_step3
            refine ⟨rfl, ⟨q, k, q + k, ts ++ [⟨tk, tt, tn, q⟩], v', tk, tb, tn, q, _, _, _, _, _, _, _, _, _, _, _, _, _, _, _, _, _, _, _, _, _, _, _, _, _, _, _, _, _, _, _, _, _, _, _, _, _, _, _, _, rfl, hqq, by omega, Lib.hid (by omega), hqk, by simp; omega, Lib.hid (by rw [H.out, hst.out, HD.out, preP_tok]), Lib.hid (by unfold OwnTok; rw [tok_snoc, hC.out, List.length_append]; exact HO2.out), HX2, HB2⟩, ?_⟩
            simp [intOf]; omega
    · intro hpass
      have Hpass := Lib.hid hpass
      clear hpass
      go_wp2_with fail
      go_step3
      rename_i hK
      refine hK _ _ ?_
      refine Hpass.out _ _ ⟨0, 0, 0, [], .slice none 0 0, 0, ⟨#[]⟩, 0, 0, _, _, _, _, _, _, _, _, _, _, _, _, _, _, _, _, _, _, _, _, _, _, _, _, _, _, _, _, _, _, _, _, _, _, _, _, _, _, _, _, rfl, by omega, by omega, Lib.hid rfl, by omega, by simp, Lib.hid (by rw [HP.out]; exact (preP_nil _).symm), Lib.hid ?_, Lib.hid (heap_alloc_new w _), Lib.hid (below_alloc1 _ _)⟩
      exact World.ownsRow_nil _ _ _ _
end Go.Proofs.YtoahaigfjfeopaaGreatDoor
