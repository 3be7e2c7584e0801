/- inst.parser: domain. -/
import Derived.Test.YtoahaigfjfeopaaGreatDoorWw
import Derived.Test.YtoahaigfjfeopaaGreatDoorBc
import Derived.IntWalk
namespace Go.Proofs.YtoahaigfjfeopaaGreatDoor
open Go.RowKit
attribute [local irreducible] wpStill

theorem domQ_num {t : Tok} {r : List Tok} {d : List Int} {e : Int × Int} (h0 : d.length = 0 ∨ t.kind = 2) (h : numberQ 1000000 (t :: r) = .error e) : domQ (t :: r) d = .error e := by
  rw [domQ, if_neg (by omega), h]
theorem domQ_go {t : Tok} {r : List Tok} {d : List Int} {p : Tok × List Tok} (h0 : d.length = 0 ∨ t.kind = 2) (h : numberQ 1000000 (t :: r) = .ok p) :
    domQ (t :: r) d = if 16 ≤ d.length then .error (t.at_, 7) else if d.length ≠ 0 ∧ t.n ≤ lastI d then .error (t.at_, 6) else domQ r (d ++ [t.n]) := by
  rw [domQ, if_neg (by omega), h]
def DomRel (g : Nat) (w : World) (dv hv sv : Value) (ts : List Tok) (k : Nat) (v : Value) (wr : World) : Prop :=
  ∃ t r d, k = (t :: r).length ∧ domQ ts [] = domQ (t :: r) d ∧ OwnI w.heap.size v d wr ∧ d.length ≤ 16 ∧ PB g wr (t :: r) dv hv sv ∧ Toks (t :: r) ∧ Chg (fun k => k = g) w wr
def DomOut (g : Nat) (w' : World) (x : Ins) (e : Ending) (d : List Int) (r : List Tok) : Prop := e = .returned (.tuple #[]) ∧ PAll g w' r { x with doms := x.doms ++ [d] }

theorem cells_info {P : Program} {t : TypeId} {z : Value} {s b : Nat} (h : (P.info? t).map (fun i => (i.zero, i.size, i.bytes)) = some (some z, s, b)) : ∃ i, P.info? t = some i ∧ i.zero = some z ∧ i.size = s ∧ i.bytes = b := info_parts h
set_option maxRecDepth 100000 in
set_option maxHeartbeats 1000000 in
theorem domain_p (g : Nat) (w : World) (ts : List Tok) (x : Ins) (h : PAll g w ts x) (hx : x.doms.length ≤ 40) :
    Calls Tryz.prog 72 #[.pointer (some ⟨g, 0, none⟩)] w fun e w' => Out (domQ ts []) (DomOut g w' x e) e ∧ Below g w w' := by
  obtain ⟨dv, hv, sv, ok, h, hst, hT⟩ := h
  have hgw := h.lt
  obtain ⟨t, r, rfl⟩ := hT.cons
  have H := Lib.hid h
  have HT := Lib.hid hT
  have HS := Lib.hid hst
  clear h hT hst
  go_enter Tryz.func72, Tryz.ntmps72
  go_wp2
  go_loopg [2] (t :: r).length (fun k v wr => DomRel g w dv hv sv (t :: r) k v wr)
  case atStart => exact ⟨t, r, [], rfl, rfl, World.ownsRow_nil _ _ _ _, by simp, H.out, HT.out, Chg.refl _ _⟩
  case round =>
    clear H HT
    obtain ⟨t2, r2, l, hk, hq, hl, hle, hp, hT, hch⟩ := hrel
    subst hk
    have hlS := hl.sl (by omega)
    obtain ⟨A, c, rfl, hc, hm, _⟩ := hlS
    have HQ := Lib.hid hq
    have HL := Lib.hid hl
    have HP := Lib.hid hp
    have HT := Lib.hid hT
    have HG := Lib.hid hch
    have hbs := hch.size
    have hn := Lib.hid (number_p g wr t2 r2 _ _ _ 1000000 (by decide) (by decide) hp)
    have hmc := Lib.hid (more_any g wr t2 r2 _ _ _ hp)
    clear hq hl hp hT hch
    by_cases hout : ¬ l.length = 0 ∧ ¬ t2.kind = 2
    · obtain ⟨h0, h2⟩ := hout
      have hb0 : ((l.length : Int) == 0) = false := beq_eq_false_iff_ne.2 (by omega)
      have hb2 : (t2.kind == 2) = false := beq_eq_false_iff_ne.2 h2
      have HR : Hid (domQ (t :: r) [] = .ok (l, t2 :: r2)) := Lib.hid (by rw [HQ.out, domQ, if_pos ⟨h0, h2⟩])
      have HS1 := Lib.hid (((HS.out.chg HG.out (fun k hk => by omega)).fill hbs hgw).chg (Chg.alloc0 wr (.cells #[.slice A l.length c] 41) (fun _ => False)) (fun _ h => h.elim))
      have HP2 := Lib.hid (HP.out.alloc (.cells #[.slice A l.length c] 41))
      have HG2 := Lib.hid (((HG.out.alloc (.cells #[.slice A l.length c] 41)).mono (fun j _ hj => (Or.inl hj : j = g ∨ g + 1 ≤ j))))
      have hD := HS1.out.D
      obtain ⟨DA, Dc, rfl, _, _, _⟩ := hD.sl (by omega)
      obtain ⟨css, hc1, hc2⟩ := hD.open_
      have HC1 := Lib.hid hc1
      have HC2 := Lib.hid hc2
      have HS2 := HS1
      have HX : Hid (kRow.K (wr.alloc (.cells #[.slice A l.length c] 41)) (fun k => ok k ∨ (w.heap.size ≤ k ∧ k < wr.heap.size)) l [.slice A l.length c]) := Lib.hid ⟨_, rfl, ((HL.out.done (by omega) (Nat.le_refl _)).below (by decide) (below_alloc1 _ _)).mono fun k h => Or.inr h⟩
      obtain ⟨A2, n2, c2, hb2', _⟩ := HP.out
      have g1 := cell_at hb2' (i := 1) rfl
      clear hb2' hc1 hc2 HS1 hD
      clear HP HL HG HS
      have hlen : x.doms.length ≤ 140737488355328 := by omega
      obtain ⟨iR, hiR, hz0, hz1, hz2⟩ := info_parts (show (Tryz.prog.info? 41).map (fun i => (i.zero, i.size, i.bytes)) = some (some (.slice none 0 0), 1, 24) by kernel_rfl)
      go_wp2_with (first
        | (go_at_call 100; refine hmc.out.mono ?_; rintro e w' ⟨rfl, hw⟩; obtain rfl := hw.symm)
        | (at_builtin; refine wpList_append_lies _ rfl _ _ 22 rfl (g + 1) 41 iR _ 1 24 Tryz.underlying22 hiR hz0 hz1 hz2 rfl (by decide) _ x.doms.length css.flatten rfl HC2.out ⟨_, 0, none⟩ 1 1 [.slice A l.length c] rfl rfl (World.news_of_block (cs := #[.slice A l.length c]) (t := 41) (fr := (0, 0)) (heap_alloc_new wr _)) (by simp [Value.oneCell']) (by decide) (by unfold maxLen; omega) (by omega) (by simp; omega) (wr.heap.size + 1) (by simp) ?_))
      intro kb cap w2 hown' hgrow hat hlt
      have HS3 := Lib.hid (HS2.out.addD (by simp) HC1.out HX.out hgrow hown' (hat_of hat (by simp)))
      have HP3 := Lib.hid (HP2.out.grown hgrow (fun k hk => by have := (HC2.out.lt k hk).1; omega))
      have HG3 := Lib.hid (HG2.out.trans (chg_of_grown hgrow) (fun j hj hs => by have := (HC2.out.lt j hs).1; exact Or.inr this))
      clear hown' hgrow hat
      obtain ⟨A3, n3, c3, hb3, _⟩ := HP3.out
      have g3 := cell_at hb3 (i := 1) rfl
      have f3 := Lib.frozen_of_heap hb3 1
      clear hb3
      go_wp2
      go_end0
      rw [HR.out]
      refine ⟨⟨rfl, _, hv, sv, _, HP3.out.setD _, (HS3.out.chg (chg_setCell w2 g 1 _) (fun k hk => by omega)).later (by rw [Go.Deep.nblk_setCell]; exact Nat.le_refl _), HT.out⟩, ?_⟩
      exact (HG3.out.trans (chg_setCell w2 g 1 _) (fun j _ hs => Or.inl hs)).below (fun k hk e => by omega) (by omega)
    · have hway : l.length = 0 ∨ (0 < l.length ∧ t2.kind = 2) := by omega
      have hway2 : l.length = 0 ∨ t2.kind = 2 := by omega
      clear hout
      by_cases hk : (t2.kind == 2) = true
      · by_cases hsm : smallB t2.n 1000000 = true
        · have hgo := domQ_go (t := t2) (r := r2) (d := l) (p := (t2, r2)) hway2 (by simp [numberQ, hk, hsm])
          have hT4 := HT.out.tail (fun h => by simp [h] at hk)
          clear HT
          simp only [hk, hsm, if_true] at hn
          have hT : Hid (tokC t2 = [.int .i64 t2.kind, .string ⟨t2.text.toArray⟩, .int .i64 t2.n, .int .i64 t2.at_]) := Lib.hid rfl
          generalize (ByteArray.mk t2.text.toArray) = tb at hT
          have hk2 : t2.kind = 2 := by simpa using hk
          have HK2 := Lib.hid hk2
          clear hsm hk2
          by_cases h16 : 16 ≤ l.length
          · have HR : Hid (domQ (t :: r) [] = .error (t2.at_, 7)) := Lib.hid (by rw [HQ.out, hgo, if_pos h16])
            have hb0 : ((l.length : Int) == 0) = false := beq_eq_false_iff_ne.2 (by omega)
            clear hgo
            go_wp2_with (first
              | (go_at_call 100; refine hmc.out.mono ?_; rintro e w' ⟨rfl, hw⟩; obtain rfl := hw.symm)
              | (go_at_call 101; refine hn.out.mono ?_; rintro e W2 ⟨⟨rfl, hp2⟩, hg2⟩; (have HG2 := Lib.hid (HG.out.trans (chg_g hg2 (fun k => k = g) rfl) (fun _ _ h => h))); clear hp2 hg2; rw [hT.out]))
            refine (must_no _ _ _ _ _ _ _ (by simp; omega)).mono ?_
            rintro e W3 ⟨rfl, hb3⟩
            refine ⟨rfl, ?_⟩
            rw [HR.out]
            exact ⟨rfl, ((HG2.out.alloc _).thenBelow hb3).below (fun k hk e => by omega) (by omega)⟩
          · rw [if_neg h16] at hgo
            obtain ⟨t3, r3, rfl⟩ := hT4.cons
            have HT := Lib.hid hT4
            clear hT4
            have hR := HQ.out.trans hgo
            obtain ⟨i0, hi, hz0, hz1, hz2⟩ := info_parts (show (Tryz.prog.info? 3).map (fun i => (i.zero, i.size, i.bytes)) = some (some (.int .i64 0), 1, 8) by kernel_rfl)
            by_cases h0 : l.length = 0
            · obtain rfl : l = [] := List.eq_nil_of_length_eq_zero h0
              have HR : Hid (domQ (t :: r) [] = domQ (t3 :: r3) ([] ++ [t2.n])) := Lib.hid (by rw [hR, if_neg (by simp)])
              clear hR hgo h0 hway hway2 hk
              go_wp2_with (first
                | (go_at_call 100; refine hmc.out.mono ?_; rintro e w' ⟨rfl, hw⟩; obtain rfl := hw.symm)
                | (go_at_call 101; refine hn.out.mono ?_; rintro e W2 ⟨⟨rfl, hp2⟩, hg2⟩; (have HG2 := Lib.hid ((HG.out.trans (chg_g hg2 (fun k => k = g) rfl) (fun _ _ h => h)).alloc (.cells #[.int .i64 t2.kind, .string tb, .int .i64 t2.n, .int .i64 t2.at_] 83))); (have HP2 := Lib.hid (hp2.alloc (.cells #[.int .i64 t2.kind, .string tb, .int .i64 t2.n, .int .i64 t2.at_] 83))); (have HL2 := Lib.hid ((HL.out.chg (chg_of_grown hg2) (fun k hk e => by injection e with e; have := (HL.out.lt k hk).1; omega)).chg (Chg.alloc0 W2 (.cells #[.int .i64 t2.kind, .string tb, .int .i64 t2.n, .int .i64 t2.at_] 83) (fun _ => False)) (fun _ _ h => h.elim))); clear hp2 hg2; rw [hT.out]))
              refine (must_yes _ _ _ _ _ _ _ (by (try simp); try omega)).mono ?_
              rintro e W3 ⟨rfl, hb3⟩
              have HX3 := Lib.hid (block_kept hb3 (heap_alloc_new W2 _))
              have HG3 := Lib.hid (HG2.out.thenBelow hb3).drew
              have HP3 := Lib.hid (HP2.out.grown (below_grown0 hb3 none) (by simp)).drew
              have HL3 := Lib.hid (HL2.out.chg (chg_of_below (hb3.trans (Below.drew (Below.refl _ _))) (fun _ => False)) (fun _ _ h => h.elim))
              clear hb3 HG2 HP2 HL2 hn
              go_wp2_with fail
              refine wp_region_still_tail 15 (by kernel_rfl) (by kernel_rfl) ?_
              change wpStill _ _ (World.drew W3) (fun a' => wpList _ _ _ _ a' (World.drew W3)) _ _
              have HX4 : Hid ((World.drew W3).heap[W2.heap.size]? = _) := HX3
              generalize World.drew W3 = W at *
              generalize W2.heap.size = k2 at *
              clear HX3
              have d0 := cell_at HX4.out (i := 0) rfl
              have d1 := cell_at HX4.out (i := 1) rfl
              have d2 := cell_at HX4.out (i := 2) rfl
              have d3 := cell_at HX4.out (i := 3) rfl
              simp only [List.take_succ_cons, List.take_zero, List.drop_succ_cons, List.drop_zero]
              repeat (first | (refine still_plain rfl (fun K hK => ?_); go_simp; refine hK _ ?_; clear hK K) | (refine still_off _ _ _ _ _ rfl rfl rfl rfl rfl (fun K hK => ?_); go_simp; refine hK _ ?_; clear hK K) | (refine still_on _ _ _ _ rfl rfl rfl rfl (fun K hK => ?_); go_simp; refine hK _ ?_; clear hK K) | (refine still_dead _ _ _ _ rfl rfl rfl rfl (fun K hK => ?_); go_simp; refine hK _ ?_; clear hK K))
              refine wpStill_nil ?_
              go_wp2_with (first
                | (go_at_call 71; refine (must_ok _ _ _ _ _ _).mono ?_; rintro e W5 ⟨rfl, hb5⟩; (have HX5 := Lib.hid (block_kept hb5 HX4.out)); (have HG5 := Lib.hid (HG3.out.thenBelow hb5)); (have HP5 := Lib.hid (HP3.out.grown (below_grown0 hb5 none) (by simp))); (have HL5 := Lib.hid (HL3.out.chg (chg_of_below hb5 (fun _ => False)) (fun _ _ h => h.elim))); (have e2 := cell_at HX5.out (i := 2) rfl); clear hb5 d0 d1 d2 d3 HX4 HG3 HP3 HL3)
                | (at_builtin; refine wpList_append_own_at _ rfl _ _ 41 rfl w.heap.size 3 i0 _ 1 8 Tryz.underlying41 hi hz0 hz1 hz2 rfl (by decide) _ ([] : List Int).length (([] : List Int).map (Value.int .i64)) rfl (HL5.out.alloc _) ⟨_, 0, none⟩ 1 1 [.int .i64 t2.n] rfl rfl ?c1 ?c2 ?c3 ?c4 ?c5 ?_))
              case c1 => exact World.news_of_block (cs := #[.int .i64 t2.n]) (t := 3) (fr := (0, 0)) (heap_alloc_new W5 _)
              case c2 => simp [Value.oneCell']
              case c3 => (try simp only [maxLen]); (try simp); try omega
              case c4 => (try simp); try omega
              case c5 => have := HG5.out.size; simp; omega
              intro v' w2 hown' hgrow _ hat
              have HO2 := Lib.hid hown'
              have HG2 := Lib.hid hgrow
              clear hown' hgrow hat
              go_wp2
              go_roundg (t3 :: r3).length
              case rel => exact ⟨t3, r3, ([] : List Int) ++ [t2.n], rfl, HR.out, by have := HO2.out; unfold OwnI; simpa using this, by (try simp); try omega, (HP5.out.alloc _).grown HG2.out (fun k hk => by have := (HL5.out.lt k hk).1; omega), HT.out, (HG5.out.alloc _).trans (chg_of_grown HG2.out) (fun j hj hs => by have := (HL5.out.lt j hs).1; omega)⟩
              case measure => simp
            · have hb0 : ((l.length : Int) == 0) = false := beq_eq_false_iff_ne.2 (by omega)
              have h3p : 0 < l.length := by omega
              have w1 : IntKind.i64.wrap ((l.length : Int) - 1) = (l.length : Int) - 1 := IntWalk.i64_in _ (by omega)
              have w2 : ((l.length : Int) - 1).toNat = l.length - 1 := by omega
              have w3 : (0 : Int) ≤ (l.length : Int) - 1 := by omega
              have w5 : (1 : Int) ≤ (l.length : Int) := by omega
              have w4 : (l.length : Int) - 1 < (l.length : Int) := by omega
              by_cases h4 : lastI l < t2.n
              · have HR : Hid (domQ (t :: r) [] = domQ (t3 :: r3) (l ++ [t2.n])) := Lib.hid (by rw [hR, if_neg (by omega)])
                clear hR hgo hway hway2 h0
                go_wp2_with (first
                  | (go_at_call 100; refine hmc.out.mono ?_; rintro e w' ⟨rfl, hw⟩; obtain rfl := hw.symm)
                  | (go_at_call 101; refine hn.out.mono ?_; rintro e W2 ⟨⟨rfl, hp2⟩, hg2⟩; (have HG2 := Lib.hid ((HG.out.trans (chg_g hg2 (fun k => k = g) rfl) (fun _ _ h => h)).alloc (.cells #[.int .i64 t2.kind, .string tb, .int .i64 t2.n, .int .i64 t2.at_] 83))); (have HP2 := Lib.hid (hp2.alloc (.cells #[.int .i64 t2.kind, .string tb, .int .i64 t2.n, .int .i64 t2.at_] 83))); (have HL2 := Lib.hid ((HL.out.chg (chg_of_grown hg2) (fun k hk e => by injection e with e; have := (HL.out.lt k hk).1; omega)).chg (Chg.alloc0 W2 (.cells #[.int .i64 t2.kind, .string tb, .int .i64 t2.n, .int .i64 t2.at_] 83) (fun _ => False)) (fun _ _ h => h.elim))); clear hp2 hg2; rw [hT.out]))
                refine (must_yes _ _ _ _ _ _ _ (by (try simp); try omega)).mono ?_
                rintro e W3 ⟨rfl, hb3⟩
                have HX3 := Lib.hid (block_kept hb3 (heap_alloc_new W2 _))
                have HG3 := Lib.hid (HG2.out.thenBelow hb3).drew
                have HP3 := Lib.hid (HP2.out.grown (below_grown0 hb3 none) (by simp)).drew
                have HL3 := Lib.hid (HL2.out.chg (chg_of_below (hb3.trans (Below.drew (Below.refl _ _))) (fun _ => False)) (fun _ _ h => h.elim))
                clear hb3 HG2 HP2 HL2 hn
                go_wp2_with fail
                refine wp_region_still_tail 15 (by kernel_rfl) (by kernel_rfl) ?_
                change wpStill _ _ (World.drew W3) (fun a' => wpList _ _ _ _ a' (World.drew W3)) _ _
                have HX4 : Hid ((World.drew W3).heap[W2.heap.size]? = _) := HX3
                generalize World.drew W3 = W at *
                generalize W2.heap.size = k2 at *
                clear HX3
                have d0 := cell_at HX4.out (i := 0) rfl
                have d1 := cell_at HX4.out (i := 1) rfl
                have d2 := cell_at HX4.out (i := 2) rfl
                have d3 := cell_at HX4.out (i := 3) rfl
                simp only [List.take_succ_cons, List.take_zero, List.drop_succ_cons, List.drop_zero]
                obtain ⟨b, rfl, hb, hbc⟩ := OwnI.cell HL3.out (j := l.length - 1) (by omega)
                have hbc' : W.cell? ⟨b, l.length - 1, none⟩ = some (.int .i64 (lastI l)) := hbc
                clear hbc
                repeat (first | (refine still_plain rfl (fun K hK => ?_); go_simp; refine hK _ ?_; clear hK K) | (refine still_off _ _ _ _ _ rfl rfl rfl rfl rfl (fun K hK => ?_); go_simp; refine hK _ ?_; clear hK K) | (refine still_on _ _ _ _ rfl rfl rfl rfl (fun K hK => ?_); go_simp; refine hK _ ?_; clear hK K) | (refine still_dead _ _ _ _ rfl rfl rfl rfl (fun K hK => ?_); go_simp; refine hK _ ?_; clear hK K))
                refine wpStill_nil ?_
                go_wp2_with (first
                  | (go_at_call 71; refine (must_ok _ _ _ _ _ _).mono ?_; rintro e W5 ⟨rfl, hb5⟩; (have HX5 := Lib.hid (block_kept hb5 HX4.out)); (have HG5 := Lib.hid (HG3.out.thenBelow hb5)); (have HP5 := Lib.hid (HP3.out.grown (below_grown0 hb5 none) (by simp))); (have HL5 := Lib.hid (HL3.out.chg (chg_of_below hb5 (fun _ => False)) (fun _ _ h => h.elim))); (have e2 := cell_at HX5.out (i := 2) rfl); clear hb5 d0 d1 d2 d3 HX4 HG3 HP3 HL3)
                  | (at_builtin; refine wpList_append_own_at _ rfl _ _ 41 rfl w.heap.size 3 i0 _ 1 8 Tryz.underlying41 hi hz0 hz1 hz2 rfl (by decide) _ l.length (l.map (Value.int .i64)) rfl (HL5.out.alloc _) ⟨_, 0, none⟩ 1 1 [.int .i64 t2.n] rfl rfl ?c1 ?c2 ?c3 ?c4 ?c5 ?_))
                case c1 => exact World.news_of_block (cs := #[.int .i64 t2.n]) (t := 3) (fr := (0, 0)) (heap_alloc_new W5 _)
                case c2 => simp [Value.oneCell']
                case c3 => (try simp only [maxLen]); (try simp); try omega
                case c4 => (try simp); try omega
                case c5 => have := HG5.out.size; simp; omega
                intro v' w2 hown' hgrow _ hat
                have HO2 := Lib.hid hown'
                have HG2 := Lib.hid hgrow
                clear hown' hgrow hat
                go_wp2
                go_roundg (t3 :: r3).length
                case rel => exact ⟨t3, r3, l ++ [t2.n], rfl, HR.out, by have := HO2.out; unfold OwnI; simpa using this, by (try simp); try omega, (HP5.out.alloc _).grown HG2.out (fun k hk => by have := (HL5.out.lt k hk).1; omega), HT.out, (HG5.out.alloc _).trans (chg_of_grown HG2.out) (fun j hj hs => by have := (HL5.out.lt j hs).1; omega)⟩
                case measure => simp
              · have HR : Hid (domQ (t :: r) [] = .error (t2.at_, 6)) := Lib.hid (by rw [hR, if_pos (by omega)])
                clear hR hgo hway hway2 h0
                go_wp2_with (first
                  | (go_at_call 100; refine hmc.out.mono ?_; rintro e w' ⟨rfl, hw⟩; obtain rfl := hw.symm)
                  | (go_at_call 101; refine hn.out.mono ?_; rintro e W2 ⟨⟨rfl, hp2⟩, hg2⟩; (have HG2 := Lib.hid ((HG.out.trans (chg_g hg2 (fun k => k = g) rfl) (fun _ _ h => h)).alloc (.cells #[.int .i64 t2.kind, .string tb, .int .i64 t2.n, .int .i64 t2.at_] 83))); (have HP2 := Lib.hid (hp2.alloc (.cells #[.int .i64 t2.kind, .string tb, .int .i64 t2.n, .int .i64 t2.at_] 83))); (have HL2 := Lib.hid ((HL.out.chg (chg_of_grown hg2) (fun k hk e => by injection e with e; have := (HL.out.lt k hk).1; omega)).chg (Chg.alloc0 W2 (.cells #[.int .i64 t2.kind, .string tb, .int .i64 t2.n, .int .i64 t2.at_] 83) (fun _ => False)) (fun _ _ h => h.elim))); clear hp2 hg2; rw [hT.out]))
                refine (must_yes _ _ _ _ _ _ _ (by (try simp); try omega)).mono ?_
                rintro e W3 ⟨rfl, hb3⟩
                have HX3 := Lib.hid (block_kept hb3 (heap_alloc_new W2 _))
                have HG3 := Lib.hid (HG2.out.thenBelow hb3).drew
                have HP3 := Lib.hid (HP2.out.grown (below_grown0 hb3 none) (by simp)).drew
                have HL3 := Lib.hid (HL2.out.chg (chg_of_below (hb3.trans (Below.drew (Below.refl _ _))) (fun _ => False)) (fun _ _ h => h.elim))
                clear hb3 HG2 HP2 HL2 hn
                go_wp2_with fail
                refine wp_region_still_tail 15 (by kernel_rfl) (by kernel_rfl) ?_
                change wpStill _ _ (World.drew W3) (fun a' => wpList _ _ _ _ a' (World.drew W3)) _ _
                have HX4 : Hid ((World.drew W3).heap[W2.heap.size]? = _) := HX3
                generalize World.drew W3 = W at *
                generalize W2.heap.size = k2 at *
                clear HX3
                have d0 := cell_at HX4.out (i := 0) rfl
                have d1 := cell_at HX4.out (i := 1) rfl
                have d2 := cell_at HX4.out (i := 2) rfl
                have d3 := cell_at HX4.out (i := 3) rfl
                simp only [List.take_succ_cons, List.take_zero, List.drop_succ_cons, List.drop_zero]
                obtain ⟨b, rfl, hb, hbc⟩ := OwnI.cell HL3.out (j := l.length - 1) (by omega)
                have hbc' : W.cell? ⟨b, l.length - 1, none⟩ = some (.int .i64 (lastI l)) := hbc
                clear hbc
                repeat (first | (refine still_plain rfl (fun K hK => ?_); go_simp; refine hK _ ?_; clear hK K) | (refine still_off _ _ _ _ _ rfl rfl rfl rfl rfl (fun K hK => ?_); go_simp; refine hK _ ?_; clear hK K) | (refine still_on _ _ _ _ rfl rfl rfl rfl (fun K hK => ?_); go_simp; refine hK _ ?_; clear hK K) | (refine still_dead _ _ _ _ rfl rfl rfl rfl (fun K hK => ?_); go_simp; refine hK _ ?_; clear hK K))
                refine wpStill_nil ?_
                go_wp2_with (go_at_call 71; refine (must_no _ _ _ _ _ _ _ (by (try simp); try omega)).mono ?_; rintro e W5 ⟨rfl, hb5⟩; refine ⟨rfl, ?_⟩; rw [HR.out]; exact ⟨rfl, (HG3.out.thenBelow hb5).below (fun k hk e => by omega) (by omega)⟩)
        · have hsm := Bool.eq_false_iff.2 hsm
          have HR : Hid (domQ (t :: r) [] = .error (t2.at_, 4)) := Lib.hid (by rw [HQ.out]; exact domQ_num hway2 (by simp [numberQ, hk, hsm]))
          simp only [hk, hsm, Bool.false_eq_true, if_false, if_true] at hn
          rcases hway with h0 | ⟨h0, h2⟩
          · have hb0 : ((l.length : Int) == 0) = true := beq_iff_eq.2 (by omega)
            clear h0 hsm
            go_wp2_with (first
              | (go_at_call 100; refine hmc.out.mono ?_; rintro e w' ⟨rfl, hw⟩; obtain rfl := hw.symm)
              | (go_at_call 101; refine hn.out.mono ?_; rintro e W2 ⟨rfl, hg2⟩; refine ⟨rfl, ?_⟩; rw [HR.out]; exact ⟨rfl, (HG.out.trans (chg_g hg2 (fun k => k = g) rfl) (fun _ _ h => h)).below (fun k hk e => by omega) (by omega)⟩))
          · have hb0 : ((l.length : Int) == 0) = false := beq_eq_false_iff_ne.2 (by omega)
            clear h2 hsm
            go_wp2_with (first
              | (go_at_call 100; refine hmc.out.mono ?_; rintro e w' ⟨rfl, hw⟩; obtain rfl := hw.symm)
              | (go_at_call 101; refine hn.out.mono ?_; rintro e W2 ⟨rfl, hg2⟩; refine ⟨rfl, ?_⟩; rw [HR.out]; exact ⟨rfl, (HG.out.trans (chg_g hg2 (fun k => k = g) rfl) (fun _ _ h => h)).below (fun k hk e => by omega) (by omega)⟩))
      · have hk := Bool.eq_false_iff.2 hk
        have h0 : l.length = 0 := by rcases hway with h | ⟨_, h⟩; exact h; simp [h] at hk
        have HR : Hid (domQ (t :: r) [] = .error (t2.at_, 3)) := Lib.hid (by rw [HQ.out]; exact domQ_num (.inl h0) (by simp [numberQ, hk]))
        simp only [hk, Bool.false_eq_true, if_false] at hn
        have hb0 : ((l.length : Int) == 0) = true := beq_iff_eq.2 (by omega)
        clear h0 hway hway2
        go_wp2_with (first
          | (go_at_call 100; refine hmc.out.mono ?_; rintro e w' ⟨rfl, hw⟩; obtain rfl := hw.symm)
          | (go_at_call 101; refine hn.out.mono ?_; rintro e W2 ⟨rfl, hg2⟩; refine ⟨rfl, ?_⟩; rw [HR.out]; exact ⟨rfl, (HG.out.trans (chg_g hg2 (fun k => k = g) rfl) (fun _ _ h => h)).below (fun k hk e => by omega) (by omega)⟩))
end Go.Proofs.YtoahaigfjfeopaaGreatDoor
