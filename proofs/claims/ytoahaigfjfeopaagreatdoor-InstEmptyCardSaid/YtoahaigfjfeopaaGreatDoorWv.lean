/- inst.parser: variable. -/
import Derived.Test.YtoahaigfjfeopaaGreatDoorWu
import Derived.Test.YtoahaigfjfeopaaGreatDoorBb
import Derived.IntWalk
namespace Go.Proofs.YtoahaigfjfeopaaGreatDoor
open Go.RowKit
attribute [local irreducible] wpStill

theorem must_yes (b : Bool) (tk tn ta x : Int) (tb : ByteArray) (w : World) (hb : b = true) : Calls Tryz.prog 71 #[.bool b, .agg #[.int .i64 tk, .string tb, .int .i64 tn, .int .i64 ta], .int .i64 x] w fun e w' => e = .returned (.tuple #[]) ∧ Below w.heap.size w w' := by
  subst hb; exact must_ok tk tn ta x tb w
theorem must_no (b : Bool) (tk tn ta x : Int) (tb : ByteArray) (w : World) (hb : b = false) : Calls Tryz.prog 71 #[.bool b, .agg #[.int .i64 tk, .string tb, .int .i64 tn, .int .i64 ta], .int .i64 x] w fun e w' => e = wrongs ta x ∧ Below w.heap.size w w' := by
  subst hb; exact must_bad tk tn ta x tb w
theorem chg_g {g : Nat} {a b : World} (h : a.grownBy b (some g)) (S : Nat → Prop) (hs : S g) : Chg S a b :=
  (chg_of_grown h).mono fun j _ hj => by injection hj with hj; rw [← hj]; exact hs
theorem Chg.alloc {S : Nat → Prop} {a b : World} (h : Chg S a b) (o : Obj) : Chg S a (b.alloc o) := h.trans (chg_of_below (below_alloc1 b o) (fun _ => False)) (fun _ _ h => h.elim)
theorem Chg.drew {S : Nat → Prop} {a b : World} (h : Chg S a b) : Chg S a b.drew := h.trans (chg_of_below (Below.drew (Below.refl _ _)) (fun _ => False)) (fun _ _ h => h.elim)
theorem Chg.thenBelow {S : Nat → Prop} {a b c : World} (h : Chg S a b) (hb : Below b.heap.size b c) : Chg S a c := h.trans (chg_of_below hb (fun _ => False)) (fun _ _ h => h.elim)
/-- The last number of a row of the call's own. -/
theorem OwnI.cell {base : Nat} {A : Option Addr} {n c : Nat} {xs : List Int} {w : World} (h : OwnI base (.slice A n c) xs w) {j : Nat} (hj : j < xs.length) :
    ∃ b, A = some ⟨b, 0, none⟩ ∧ base ≤ b ∧ w.cell? ⟨b, j, none⟩ = some (.int .i64 (nth 0 xs j)) := by
  rcases h.2 with ⟨_, h0⟩ | ⟨g, cap, cur, hv, hb, _⟩
  · omega
  · injection hv with hv1 hv2 hv3
    subst hv1 hv2 hv3
    have hc := h.cells (g := g) rfl j (.int .i64 (nth 0 xs j)) (by rw [List.getElem?_map, nth_get 0 xs j hj]; rfl)
    have e : (⟨g, 0, none⟩ : Addr).add j = ⟨g, j, none⟩ := by unfold Addr.add; split <;> simp_all
    rw [e] at hc
    exact ⟨g, rfl, hb, hc⟩

/-- What a method tells: what was read and what is left, or where it is wrong. -/
def Out {α : Type} (res : PR α) (ok : α → List Tok → Prop) (e : Ending) : Prop :=
  match res with
  | .error (p, x) => e = wrongs p x
  | .ok (a, r) => ok a r
def VarOut (g base : Nat) (w w' : World) (dv hv sv v : Value) (e : Ending) (l' : List Int) (r' : List Tok) : Prop :=
  ∃ v', e = .returned v' ∧ OwnI base v' l' w' ∧ PB g w' r' dv hv sv ∧ (v'.ownBlock = v.ownBlock ∨ ∃ k, v'.ownBlock = some k ∧ w.heap.size ≤ k)

set_option maxRecDepth 100000 in
set_option maxHeartbeats 4000000 in
theorem variable_p (g base : Nat) (w : World) (t : Tok) (r : List Tok) (DA : Option Addr) (nd Dc : Nat) (hv sv : Value) (l : List Int) (v : Value)
    (h : PB g w (t :: r) (.slice DA nd Dc) hv sv) (hnd : nd ≤ 140737488355328) (hgb : g < base) (hbs : base ≤ w.heap.size) (hl : OwnI base v l w) (hle : l.length ≤ 6) :
    Calls Tryz.prog 117 #[.pointer (some ⟨g, 0, none⟩), v] w fun e w' => Out (varQ nd l (t :: r)) (VarOut g base w w' (.slice DA nd Dc) hv sv v e) e ∧ Chg (fun k => k = g ∨ v.ownBlock = some k) w w' := by
  have hn := Lib.hid (number_p g w t r _ hv sv 1000000000000 (by decide) (by decide) h)
  have hgw := h.lt
  have hlS := hl.sl (by omega)
  obtain ⟨A, c, rfl, hc, hm, hA⟩ := hlS
  by_cases hk : (t.kind == 2) = true
  · by_cases hsm : smallB t.n 1000000000000 = true
    · have hQ : varQ nd l (t :: r) = if 6 ≤ l.length then .error (t.at_, 7) else if 0 ≤ t.n ∧ t.n < nd ∧ (l.length = 0 ∨ lastI l < t.n) then .ok (l ++ [t.n], r) else .error (t.at_, 5) := by simp [varQ, numberQ, hk, hsm]
      rw [hQ]
      simp only [hk, hsm, if_true] at hn
      have hT : Hid (tokC t = [.int .i64 t.kind, .string ⟨t.text.toArray⟩, .int .i64 t.n, .int .i64 t.at_]) := Lib.hid rfl
      generalize (ByteArray.mk t.text.toArray) = tb at hT
      by_cases h6 : 6 ≤ l.length
      · simp only [h6, if_true]
        clear hk hA hsm hQ
        go_enter Tryz.func117, Tryz.ntmps117
        go_wp2_with (go_at_call 101; refine hn.out.mono ?_; rintro e W2 ⟨⟨rfl, hp2⟩, hg2⟩; (have HG2 := Lib.hid hg2); clear hg2 hp2; rw [hT.out])
        refine (must_no _ _ _ _ _ _ _ (by simp; omega)).mono ?_
        rintro e W3 ⟨rfl, hb3⟩
        exact ⟨rfl, rfl, ((chg_g HG2.out _ (Or.inl rfl)).alloc _).thenBelow hb3⟩
      · simp only [h6, if_false]
        obtain ⟨res, hres⟩ : ∃ x : PR (List Int), x = (if 0 ≤ t.n ∧ t.n < nd ∧ (l.length = 0 ∨ lastI l < t.n) then .ok (l ++ [t.n], r) else .error (t.at_, 5)) := ⟨_, rfl⟩
        rw [← hres]
        have HR := Lib.hid hres
        have HC := Lib.hid hc
        have HL := Lib.hid hl
        clear hk hA hsm hQ h hl hres
        go_enter Tryz.func117, Tryz.ntmps117
        go_wp2_with (go_at_call 101; refine hn.out.mono ?_; rintro e W2 ⟨⟨rfl, hp2⟩, hg2⟩; (have HG2 := Lib.hid ((chg_g hg2 (fun k => k = g ∨ (Value.slice A l.length c).ownBlock = some k) (Or.inl rfl)).alloc (.cells #[.int .i64 t.kind, .string tb, .int .i64 t.n, .int .i64 t.at_] 83))); (have HP2 := Lib.hid (hp2.alloc (.cells #[.int .i64 t.kind, .string tb, .int .i64 t.n, .int .i64 t.at_] 83))); (have HL2 := Lib.hid ((HL.out.chg (chg_of_grown hg2) (fun k hk e => by injection e with e; have := (HL.out.lt k hk).1; omega)).chg (chg_of_below (below_alloc1 W2 (.cells #[.int .i64 t.kind, .string tb, .int .i64 t.n, .int .i64 t.at_] 83)) (fun _ => False)) (fun _ _ h => h.elim))); clear hg2 hp2; rw [hT.out])
        refine (must_yes _ _ _ _ _ _ _ (by simp; omega)).mono ?_
        rintro e W3 ⟨rfl, hb3⟩
        have HX3 := Lib.hid (block_kept hb3 (heap_alloc_new W2 _))
        have HG3 := Lib.hid (HG2.out.thenBelow hb3).drew
        have HP3 := Lib.hid (HP2.out.grown (below_grown0 hb3 none) (by simp)).drew
        have HL3 := Lib.hid (HL2.out.chg (chg_of_below (hb3.trans (Below.drew (Below.refl _ _))) (fun _ => False)) (fun _ _ h => h.elim))
        clear hb3 HG2 HP2 HL2 hn HL
        go_wp2_with fail
        refine wp_region_still_tail 31 (by kernel_rfl) (by kernel_rfl) ?_
        change wpStill _ _ (World.drew W3) (fun a' => wpList _ _ _ _ a' (World.drew W3)) _ _
        have HX4 : Hid ((World.drew W3).heap[W2.heap.size]? = _) := HX3
        generalize World.drew W3 = W at *
        generalize W2.heap.size = k2 at *
        clear HX3
        have hPg := HP3.out.lt
        obtain ⟨A', n', c', hgb, _⟩ := HP3.out
        have g1 := cell_at hgb (i := 1) rfl
        have d0 := cell_at HX4.out (i := 0) rfl
        have d1 := cell_at HX4.out (i := 1) rfl
        have d2 := cell_at HX4.out (i := 2) rfl
        have d3 := cell_at HX4.out (i := 3) rfl
        clear hgb
        simp only [List.take_succ_cons, List.take_zero, List.drop_succ_cons, List.drop_zero]
        obtain ⟨i0, hi, hz0, hz1, hz2⟩ := info_parts (show (Tryz.prog.info? 3).map (fun i => (i.zero, i.size, i.bytes)) = some (some (.int .i64 0), 1, 8) by kernel_rfl)
        obtain ⟨i0, hi, hz0, hz1, hz2⟩ := info_parts (show (Tryz.prog.info? 3).map (fun i => (i.zero, i.size, i.bytes)) = some (some (.int .i64 0), 1, 8) by kernel_rfl)
        obtain ⟨i0, hi, hz0, hz1, hz2⟩ := info_parts (show (Tryz.prog.info? 3).map (fun i => (i.zero, i.size, i.bytes)) = some (some (.int .i64 0), 1, 8) by kernel_rfl)
        obtain ⟨i0, hi, hz0, hz1, hz2⟩ := info_parts (show (Tryz.prog.info? 3).map (fun i => (i.zero, i.size, i.bytes)) = some (some (.int .i64 0), 1, 8) by kernel_rfl)
        obtain ⟨i0, hi, hz0, hz1, hz2⟩ := info_parts (show (Tryz.prog.info? 3).map (fun i => (i.zero, i.size, i.bytes)) = some (some (.int .i64 0), 1, 8) by kernel_rfl)
        obtain ⟨i0, hi, hz0, hz1, hz2⟩ := info_parts (show (Tryz.prog.info? 3).map (fun i => (i.zero, i.size, i.bytes)) = some (some (.int .i64 0), 1, 8) by kernel_rfl)
        obtain ⟨i0, hi, hz0, hz1, hz2⟩ := info_parts (show (Tryz.prog.info? 3).map (fun i => (i.zero, i.size, i.bytes)) = some (some (.int .i64 0), 1, 8) by kernel_rfl)
        by_cases h1 : 0 ≤ t.n
        · by_cases h2 : t.n < nd
          · by_cases h3 : l.length = 0
            · obtain rfl : l = [] := List.eq_nil_of_length_eq_zero h3
              repeat (first | (refine still_plain rfl (fun K hK => ?_); go_simp; refine hK _ ?_; clear hK K) | (refine still_off _ _ _ _ _ rfl rfl rfl rfl rfl (fun K hK => ?_); go_simp; refine hK _ ?_; clear hK K) | (refine still_on _ _ _ _ rfl rfl rfl rfl (fun K hK => ?_); go_simp; refine hK _ ?_; clear hK K) | (refine still_dead _ _ _ _ rfl rfl rfl rfl (fun K hK => ?_); go_simp; refine hK _ ?_; clear hK K))
              refine wpStill_nil ?_
              go_wp2_with (first
                | (go_at_call 71; refine (must_ok _ _ _ _ _ _).mono ?_; rintro e W5 ⟨rfl, hb5⟩; (have HX5 := Lib.hid (block_kept hb5 HX4.out)); (have HG5 := Lib.hid (HG3.out.thenBelow hb5)); (have HP5 := Lib.hid (HP3.out.grown (below_grown0 hb5 none) (by simp))); (have HL5 := Lib.hid (HL3.out.chg (chg_of_below hb5 (fun _ => False)) (fun _ _ h => h.elim))); (have e2 := cell_at HX5.out (i := 2) rfl); clear hb5 d0 d1 d2 d3 HX4 HG3 HP3 HL3 g1)
                | (at_builtin; refine wpList_append_own_at _ rfl _ _ 41 rfl base 3 i0 _ 1 8 Tryz.underlying41 hi hz0 hz1 hz2 rfl (by decide) _ ([] : List Int).length (([] : List Int).map (Value.int .i64)) rfl (HL5.out.alloc _) ⟨_, 0, none⟩ 1 1 [.int .i64 t.n] rfl rfl ?c1 ?c2 ?c3 ?c4 ?c5 ?_))
              case c1 => exact World.news_of_block (cs := #[.int .i64 t.n]) (t := 3) (fr := (0, 0)) (heap_alloc_new W5 _)
              case c2 => simp [Value.oneCell']
              case c3 => (try simp only [maxLen]); (try simp); try omega
              case c4 => (try simp); try omega
              case c5 => have := HG5.out.size; simp; omega
              intro v' w2 hown' hgrow _ hat
              have HO2 := Lib.hid hown'
              have HG2 := Lib.hid hgrow
              have HA2 := Lib.hid hat
              clear hown' hgrow hat
              go_wp2
              go_ret
              refine ⟨?_, (HG5.out.alloc _).trans (chg_of_grown HG2.out) (fun j _ hj => Or.inr hj)⟩
              rw [HR.out, if_pos (by simp; omega)]
              refine ⟨v', rfl, ?_, (HP5.out.alloc _).grown HG2.out (fun k hk => by have := (HL5.out.lt k hk).1; omega), ?_⟩
              · have := HO2.out
                unfold OwnI
                simpa using this
              · rcases HA2.out with h | h
                · exact Or.inl h
                · exact Or.inr ⟨_, h, by have := HG5.out.size; simp; omega⟩
            · obtain ⟨b, rfl, hb, hbc⟩ := OwnI.cell HL3.out (j := l.length - 1) (by omega)
              have hbc' : W.cell? ⟨b, l.length - 1, none⟩ = some (.int .i64 (lastI l)) := hbc
              have h3b : ((l.length : Int) == 0) = false := beq_eq_false_iff_ne.2 (by omega)
              have h3p : 0 < l.length := by omega
              have w1 : IntKind.i64.wrap ((l.length : Int) - 1) = (l.length : Int) - 1 := IntWalk.i64_in _ (by omega)
              have w2 : ((l.length : Int) - 1).toNat = l.length - 1 := by omega
              have w3 : (0 : Int) ≤ (l.length : Int) - 1 := by omega
              have w5 : (1 : Int) ≤ (l.length : Int) := by omega
              have w4 : (l.length : Int) - 1 < (l.length : Int) := by omega
              clear hbc h3
              by_cases h4 : lastI l < t.n
              · repeat (first | (refine still_plain rfl (fun K hK => ?_); go_simp; refine hK _ ?_; clear hK K) | (refine still_off _ _ _ _ _ rfl rfl rfl rfl rfl (fun K hK => ?_); go_simp; refine hK _ ?_; clear hK K) | (refine still_on _ _ _ _ rfl rfl rfl rfl (fun K hK => ?_); go_simp; refine hK _ ?_; clear hK K) | (refine still_dead _ _ _ _ rfl rfl rfl rfl (fun K hK => ?_); go_simp; refine hK _ ?_; clear hK K))
                refine wpStill_nil ?_
                go_wp2_with (first
                  | (go_at_call 71; refine (must_ok _ _ _ _ _ _).mono ?_; rintro e W5 ⟨rfl, hb5⟩; (have HX5 := Lib.hid (block_kept hb5 HX4.out)); (have HG5 := Lib.hid (HG3.out.thenBelow hb5)); (have HP5 := Lib.hid (HP3.out.grown (below_grown0 hb5 none) (by simp))); (have HL5 := Lib.hid (HL3.out.chg (chg_of_below hb5 (fun _ => False)) (fun _ _ h => h.elim))); (have e2 := cell_at HX5.out (i := 2) rfl); clear hb5 d0 d1 d2 d3 HX4 HG3 HP3 HL3 g1)
                  | (at_builtin; refine wpList_append_own_at _ rfl _ _ 41 rfl base 3 i0 _ 1 8 Tryz.underlying41 hi hz0 hz1 hz2 rfl (by decide) _ l.length (l.map (Value.int .i64)) rfl (HL5.out.alloc _) ⟨_, 0, none⟩ 1 1 [.int .i64 t.n] rfl rfl ?c1 ?c2 ?c3 ?c4 ?c5 ?_))
                case c1 => exact World.news_of_block (cs := #[.int .i64 t.n]) (t := 3) (fr := (0, 0)) (heap_alloc_new W5 _)
                case c2 => simp [Value.oneCell']
                case c3 => (try simp only [maxLen]); (try simp); try omega
                case c4 => (try simp); try omega
                case c5 => have := HG5.out.size; simp; omega
                intro v' w2 hown' hgrow _ hat
                have HO2 := Lib.hid hown'
                have HG2 := Lib.hid hgrow
                have HA2 := Lib.hid hat
                clear hown' hgrow hat
                go_wp2
                go_ret
                refine ⟨?_, (HG5.out.alloc _).trans (chg_of_grown HG2.out) (fun j _ hj => Or.inr hj)⟩
                rw [HR.out, if_pos (by simp; omega)]
                refine ⟨v', rfl, ?_, (HP5.out.alloc _).grown HG2.out (fun k hk => by have := (HL5.out.lt k hk).1; omega), ?_⟩
                · have := HO2.out
                  unfold OwnI
                  simpa using this
                · rcases HA2.out with h | h
                  · exact Or.inl h
                  · exact Or.inr ⟨_, h, by have := HG5.out.size; simp; omega⟩
              · repeat (first | (refine still_plain rfl (fun K hK => ?_); go_simp; refine hK _ ?_; clear hK K) | (refine still_off _ _ _ _ _ rfl rfl rfl rfl rfl (fun K hK => ?_); go_simp; refine hK _ ?_; clear hK K) | (refine still_on _ _ _ _ rfl rfl rfl rfl (fun K hK => ?_); go_simp; refine hK _ ?_; clear hK K) | (refine still_dead _ _ _ _ rfl rfl rfl rfl (fun K hK => ?_); go_simp; refine hK _ ?_; clear hK K))
                refine wpStill_nil ?_
                go_wp2_with (go_at_call 71; refine (must_bad _ _ _ _ _ _).mono ?_; rintro e W5 ⟨rfl, hb5⟩; refine ⟨rfl, ?_, HG3.out.thenBelow hb5⟩; rw [HR.out, if_neg (by omega)]; exact rfl)
          · repeat (first | (refine still_plain rfl (fun K hK => ?_); go_simp; refine hK _ ?_; clear hK K) | (refine still_off _ _ _ _ _ rfl rfl rfl rfl rfl (fun K hK => ?_); go_simp; refine hK _ ?_; clear hK K) | (refine still_on _ _ _ _ rfl rfl rfl rfl (fun K hK => ?_); go_simp; refine hK _ ?_; clear hK K) | (refine still_dead _ _ _ _ rfl rfl rfl rfl (fun K hK => ?_); go_simp; refine hK _ ?_; clear hK K))
            refine wpStill_nil ?_
            go_wp2_with (go_at_call 71; refine (must_bad _ _ _ _ _ _).mono ?_; rintro e W5 ⟨rfl, hb5⟩; refine ⟨rfl, ?_, HG3.out.thenBelow hb5⟩; rw [HR.out, if_neg (by omega)]; exact rfl)
        · repeat (first | (refine still_plain rfl (fun K hK => ?_); go_simp; refine hK _ ?_; clear hK K) | (refine still_off _ _ _ _ _ rfl rfl rfl rfl rfl (fun K hK => ?_); go_simp; refine hK _ ?_; clear hK K) | (refine still_on _ _ _ _ rfl rfl rfl rfl (fun K hK => ?_); go_simp; refine hK _ ?_; clear hK K) | (refine still_dead _ _ _ _ rfl rfl rfl rfl (fun K hK => ?_); go_simp; refine hK _ ?_; clear hK K))
          refine wpStill_nil ?_
          go_wp2_with (go_at_call 71; refine (must_bad _ _ _ _ _ _).mono ?_; rintro e W5 ⟨rfl, hb5⟩; refine ⟨rfl, ?_, HG3.out.thenBelow hb5⟩; rw [HR.out, if_neg (by omega)]; exact rfl)
    · have hsm := Bool.eq_false_iff.2 hsm
      have hQ : varQ nd l (t :: r) = .error (t.at_, 4) := by simp [varQ, numberQ, hk, hsm]
      rw [hQ]
      simp only [hk, hsm, Bool.false_eq_true, if_false, if_true] at hn
      clear hk hA hsm
      go_enter Tryz.func117, Tryz.ntmps117
      go_wp2_with (go_at_call 101; refine hn.out.mono ?_; rintro e W2 ⟨rfl, hg2⟩; exact ⟨rfl, rfl, chg_g hg2 _ (Or.inl rfl)⟩)
  · have hk := Bool.eq_false_iff.2 hk
    have hQ : varQ nd l (t :: r) = .error (t.at_, 3) := by simp [varQ, numberQ, hk]
    rw [hQ]
    simp only [hk, Bool.false_eq_true, if_false] at hn
    clear hk hA
    go_enter Tryz.func117, Tryz.ntmps117
    go_wp2_with (go_at_call 101; refine hn.out.mono ?_; rintro e W2 ⟨rfl, hg2⟩; exact ⟨rfl, rfl, chg_g hg2 _ (Or.inl rfl)⟩)
end Go.Proofs.YtoahaigfjfeopaaGreatDoor
