/- inst.parser: hard. -/
import Derived.Test.YtoahaigfjfeopaaGreatDoorWad
namespace Go.Proofs.YtoahaigfjfeopaaGreatDoor
open Go.RowKit
attribute [local irreducible] wpStill wpLex Calls

theorem scopeQ_range {nd : Nat} : ∀ (ts : List Tok) (l l' : List Int) (r : List Tok), scopeQ nd ts l = .ok (l', r) → (∀ v ∈ l, 0 ≤ v ∧ v < nd) → ∀ v ∈ l', 0 ≤ v ∧ v < nd
  | [], l, l', r, h, _ => by simp [scopeQ] at h
  | t :: ts, l, l', r, h, hl => by
    by_cases h0 : l.length = 0 ∨ t.kind = 2
    · cases hv : varQ nd l (t :: ts) with
      | error e => rw [scopeQ_err h0 hv] at h; cases h
      | ok p =>
        rw [scopeQ_ok h0 hv] at h
        refine scopeQ_range ts p.1 l' r h ?_
        obtain ⟨p1, p2⟩ := p
        obtain ⟨_, _, hp, _⟩ := varQ_ok hv
        simp only
        subst hp
        intro v hm
        rcases List.mem_append.1 hm with hm | hm
        · exact hl v hm
        · obtain rfl := List.mem_singleton.1 hm
          rw [varQ] at hv
          rcases numberQ_cases 1000000000000 t ts with ⟨h1, _⟩ | ⟨h1, _⟩ | ⟨h1, _⟩ <;> rw [h1] at hv
          · cases hv
          · cases hv
          · simp only at hv
            split at hv
            · cases hv
            · split at hv
              · rename_i h; exact ⟨h.1, h.2.1⟩
              · cases hv
    · rw [scopeQ, if_pos (by omega)] at h
      injection h with h
      injection h with h _
      exact h ▸ hl
theorem scopeQ_len {nd : Nat} : ∀ (ts : List Tok) (l l' : List Int) (r : List Tok), scopeQ nd ts l = .ok (l', r) → r.length ≤ ts.length
  | [], l, l', r, h => by simp [scopeQ] at h
  | t :: ts, l, l', r, h => by
    by_cases h0 : l.length = 0 ∨ t.kind = 2
    · cases hv : varQ nd l (t :: ts) with
      | error e => rw [scopeQ_err h0 hv] at h; cases h
      | ok p =>
        rw [scopeQ_ok h0 hv] at h
        have := scopeQ_len ts p.1 l' r h
        simp; omega
    · rw [scopeQ, if_pos (by omega)] at h
      injection h with h
      injection h with _ h
      rw [← h]; exact Nat.le_refl _
/-- A constraint's cells, as data. -/
theorem con_K {w : World} {ok : Nat → Prop} {kind : Int} {vs vr va : Value} {scope args : List Int} {rows : List (List Int)} (hs : Sl (Kd.int .i64) w ok vs scope) (hr : Sl kRow w ok vr rows) (ha : Sl (Kd.int .i64) w ok va args) :
    kCon.K w ok ⟨kind, scope, rows, args⟩ [.int .i64 kind, vs, vr, va] :=
  ⟨[_], [_, _, _], rfl, rfl, [_], [_, _], rfl, ⟨_, rfl, hs⟩, [_], [_], rfl, ⟨_, rfl, hr⟩, ⟨_, rfl, ha⟩⟩
theorem OwnD.done {α : Type} {d : Kd α} {E : TypeId} {base B : Nat} {ok : Nat → Prop} {v : Value} {xs : List α} {w : World} (h : OwnD d E base ok v xs w) (hl : xs.length ≤ 140737488355328) (hB : B ≤ base) (hok : ∀ k, ok k → B ≤ k ∧ k < w.heap.size) : Sl d w (fun k => B ≤ k ∧ k < w.heap.size) v xs :=
  (h.sl hl).mono fun k hk => by
    rcases hk with hk | hk
    · exact hok k hk
    · have := h.own k hk; exact ⟨Nat.le_trans hB this.1, this.2.1⟩
theorem hardQ_tab {doms : List (List Int)} {kind : Int} {ts r : List Tok} {scope : List Int} (h6 : ¬ kind = 6) (hs : scopeQ doms.length ts [] = .ok (scope, r)) (h2 : kind ≤ 2) :
    (∀ e, tableQ doms scope r = .error e → hardQ doms kind ts = .error e) ∧ (∀ rows r', tableQ doms scope r = .ok (rows, r') → hardQ doms kind ts = .ok (⟨kind, scope, rows, []⟩, r')) := by
  refine ⟨fun e h => ?_, fun rows r' h => ?_⟩ <;> (rw [hardQ, if_neg h6, hs]; simp only; rw [if_pos h2, h])
def HardOut (g : Nat) (w' : World) (x : Ins) (e : Ending) (c : Con) (r : List Tok) : Prop := e = .returned (.tuple #[]) ∧ PAll g w' r { x with hard := x.hard ++ [c] }

set_option maxRecDepth 100000 in
set_option maxHeartbeats 4000000 in
theorem hard_p (g : Nat) (w : World) (ts : List Tok) (x : Ins) (kind : Int) (h : PAll g w ts x) (hx : x.hard.length ≤ 200) (hd : x.doms.length ≤ 40) (htl : ts.length ≤ 150000)
    (hE : ∃ t fr, w.heap[1]? = some (.cells (howsT.map fun l => Value.string ⟨l.toArray⟩).toArray t fr)) (h8 : 8 ≤ g) :
    Calls Tryz.prog 74 #[.pointer (some ⟨g, 0, none⟩), .int .i64 kind] w fun e w' => Out (hardQ x.doms kind ts) (HardOut g w' x e) e ∧ Below g w w' := by
  obtain ⟨dv, hv, sv, ok, hp, hst, hT⟩ := h
  have hgw := hp.lt
  obtain ⟨DA, Dc, rfl, _, _, _⟩ := hst.D.sl (by omega)
  have hfb : ∀ w', Chg (fun k => g ≤ k) w w' → Below g w w' := fun w' h => h.below (fun k hk e => by omega) (by omega)
  have HFB := Lib.hid hfb
  have hc1 : ConAt w.heap.size (w.alloc (.cells #[.int .i64 kind, .slice none 0 0, .slice none 0 0, .slice none 0 0] 43)) kind (.slice none 0 0) (.slice none 0 0) (.slice none 0 0) := heap_alloc_new w _
  have hF1 : Chg (fun _ => False) w (w.alloc (.cells #[.int .i64 kind, .slice none 0 0, .slice none 0 0, .slice none 0 0] 43)) := Chg.alloc0 w _ _
  have hp1 := hp.alloc (.cells #[.int .i64 kind, .slice none 0 0, .slice none 0 0, .slice none 0 0] 43)
  have hE1 : ∃ t fr, (w.alloc (.cells #[.int .i64 kind, .slice none 0 0, .slice none 0 0, .slice none 0 0] 43)).heap[1]? = some (.cells (howsT.map fun l => Value.string ⟨l.toArray⟩).toArray t fr) := by
    obtain ⟨t, fr, h⟩ := hE
    exact ⟨t, fr, hF1.heap h id⟩
  have HST := Lib.hid hst
  by_cases hk6 : kind = 6
  · have hk6b : (kind == 6) = true := by simpa using hk6
    have hk2b : decide (kind ≤ 2) = false := by simp; omega
    have hlc := Lib.hid (linear_p g w.heap.size _ ts DA x.doms.length Dc hv sv (.slice none 0 0) kind hp1 hT (by omega) hE1 h8 hgw hc1)
    rcases hq : linearQ x.doms.length ts with ⟨p, y⟩ | ⟨⟨args, scope⟩, r⟩
    · have HR : Hid (hardQ x.doms kind ts = .error (p, y)) := Lib.hid (by rw [hardQ, if_pos hk6, hq])
      rw [hq] at hlc
      clear hq hk6 hE hE1 hp hst hT hc1 hp1 hF1 hfb
      go_enter Tryz.func74, Tryz.ntmps74
      go_wp2_with (go_at_call 105; refine hlc.out.mono ?_; rintro e w' ⟨he, hg⟩; obtain rfl : e = wrongs p y := he; refine ⟨rfl, ?_⟩; rw [HR.out]; exact ⟨rfl, HFB.out _ (((Chg.alloc0 w _ (fun _ => False)).mono (fun _ _ h => h.elim)).trans hg (fun j hj e => by omega))⟩)
    · have HR : Hid (hardQ x.doms kind ts = .ok (⟨kind, scope, [], args⟩, r)) := Lib.hid (by rw [hardQ, if_pos hk6, hq])
      rw [hq] at hlc
      clear hq hk6 hE hE1 hp hst hT hc1 hp1 hF1 hfb
      go_enter Tryz.func74, Tryz.ntmps74
      go_wp2_with (go_at_call 105; refine hlc.out.mono ?_; rintro e V0 ⟨⟨vs, va, rfl, hc9, hs9, ha9, hsl9, hal9, hp9, hT9⟩, hg9⟩; (have HC9 := Lib.hid hc9); (have HP9 := Lib.hid hp9); (have HT9 := Lib.hid hT9); obtain ⟨SA9, Sc9, rfl, _, _, _⟩ := hs9.sl (by omega); obtain ⟨AA9, Ac9, rfl, _, _, _⟩ := ha9.sl (by omega); (have HSL := Lib.hid hs9); (have HAL := Lib.hid ha9); (have HG9 := Lib.hid (((Chg.alloc0 w _ (fun _ => False)).mono (fun _ _ h => h.elim)).trans hg9 (fun j hj e => (by rcases e with e | e; exact Or.inl e; exact Or.inr (by omega) : j = g ∨ w.heap.size ≤ j)))); clear hc9 hs9 ha9 hp9 hT9 hg9)
      have hszv := HG9.out.size
      have hs9' : PSt g V0.drew.heap.size V0.drew x (.slice DA x.doms.length Dc) hv sv (fun k => ok k ∨ (w.heap.size ≤ k ∧ k < V0.drew.heap.size)) := (HST.out.chg HG9.out.drew (fun k hk => by omega)).fill hszv hgw
      have HKX := Lib.hid (show kCon.K V0.drew (fun k => ok k ∨ (w.heap.size ≤ k ∧ k < V0.drew.heap.size)) ⟨kind, scope, [], args⟩ [.int .i64 kind, (.slice SA9 scope.length Sc9), (.slice none 0 0), (.slice AA9 args.length Ac9)] from con_K (((HSL.out.done (B := w.heap.size) (by omega) (by simp)).below (by decide) (Below.drew (Below.refl _ _))).mono fun _ h => Or.inr h) ((sl_nil none 0).mono fun _ h => Or.inr h) (((HAL.out.done (B := w.heap.size) (by omega) (by simp)).below (by decide) (Below.drew (Below.refl _ _))).mono fun _ h => Or.inr h))
      obtain ⟨HA9, Hc9, hHv, _, _, _⟩ := hs9'.H.sl (by omega)
      subst hHv
      have HS9 := Lib.hid hs9'
      have HP10 := Lib.hid HP9.out.drew
      have HG10 := Lib.hid HG9.out.drew
      have hc10 : ConAt w.heap.size V0.drew kind _ _ _ := HC9.out
      obtain ⟨A9, n9, c9, hb9, _⟩ := HP10.out
      have x1 := cell_at hb9 (i := 2) rfl
      have x2 := cell_at hc10 (i := 0) rfl
      have x3 := cell_at hc10 (i := 1) rfl
      have x4 := cell_at hc10 (i := 2) rfl
      have x5 := cell_at hc10 (i := 3) rfl
      have HC10 := Lib.hid hc10
      clear hb9 hc10 hs9' HP9 HG9 HC9 HST
      obtain ⟨iC, hiC, hC0, hC1, hC2⟩ := info_parts (show (Tryz.prog.info? 43).map (fun i => (i.zero, i.size, i.bytes)) = some (some (.agg #[.int .i64 0, .slice none 0 0, .slice none 0 0, .slice none 0 0]), 4, 80) by kernel_rfl)
      refine wp_region_lex (fun w' => w'.cell? ⟨g, 2, none⟩ = some (.slice HA9 x.hard.length Hc9) ∧ w'.cell? ⟨w.heap.size, 0, none⟩ = some (.int .i64 kind) ∧ w'.cell? ⟨w.heap.size, 1, none⟩ = some (.slice SA9 scope.length Sc9) ∧ w'.cell? ⟨w.heap.size, 2, none⟩ = some (.slice none 0 0) ∧ w'.cell? ⟨w.heap.size, 3, none⟩ = some (.slice AA9 args.length Ac9)) [true, true, true, true, true, true, true, false, false, false, false, false, false] (by kernel_rfl) (by kernel_rfl) (fun c a d v w h => by cases d <;> exact h) ?_
      change wpLex _ _ _ _ _ _ _ _ _ (World.drew V0)
      have hV : V0.heap.size ≤ (World.drew V0).heap.size := Nat.le_refl _
      generalize World.drew V0 = V at *
      repeat (first | (refine lex_take ⟨x1, x2, x3, x4, x5⟩ rfl (fun w' hw' => by (obtain ⟨y1, y2, y3, y4, y5⟩ := hw'; (try go_simp); try rfl)) (fun K hK => ?_); go_simp; refine hK _ _ ?_; clear hK K) | (refine lex_take_on _ _ _ _ ⟨x1, x2, x3, x4, x5⟩ rfl rfl rfl rfl (fun w' hw' => by (obtain ⟨y1, y2, y3, y4, y5⟩ := hw'; (try go_simp); try rfl)) (fun K hK => ?_); go_simp; refine hK _ _ ?_; clear hK K) | (refine lex_take_off _ _ _ _ _ ⟨x1, x2, x3, x4, x5⟩ rfl rfl rfl rfl rfl (fun K hK => ?_); go_simp; refine hK _ _ ?_; clear hK K))
      refine lex_step rfl (fun K hK => ?_)
      go_wp2_with fail
      have z1 := cell_kept (below_alloc1 V (.cells #[.int .i64 kind, (.slice SA9 scope.length Sc9), (.slice none 0 0), (.slice AA9 args.length Ac9)] 43)) x1
      have z2 := cell_kept (below_alloc1 V (.cells #[.int .i64 kind, (.slice SA9 scope.length Sc9), (.slice none 0 0), (.slice AA9 args.length Ac9)] 43)) x2
      have z3 := cell_kept (below_alloc1 V (.cells #[.int .i64 kind, (.slice SA9 scope.length Sc9), (.slice none 0 0), (.slice AA9 args.length Ac9)] 43)) x3
      have z4 := cell_kept (below_alloc1 V (.cells #[.int .i64 kind, (.slice SA9 scope.length Sc9), (.slice none 0 0), (.slice AA9 args.length Ac9)] 43)) x4
      have z5 := cell_kept (below_alloc1 V (.cells #[.int .i64 kind, (.slice SA9 scope.length Sc9), (.slice none 0 0), (.slice AA9 args.length Ac9)] 43)) x5
      refine hK _ _ ⟨z1, z2, z3, z4, z5⟩ ?_
      clear hK K z1 z2 z3 z4 z5
      have HS11 := Lib.hid (HS9.out.chg (Chg.alloc0 V (.cells #[.int .i64 kind, (.slice SA9 scope.length Sc9), (.slice none 0 0), (.slice AA9 args.length Ac9)] 43) (fun _ => False)) (fun _ h => h.elim))
      have HK11 := Lib.hid (kCon.chg HKX.out (Chg.alloc0 V (.cells #[.int .i64 kind, (.slice SA9 scope.length Sc9), (.slice none 0 0), (.slice AA9 args.length Ac9)] 43) (fun _ => False)) (fun _ _ h => h))
      obtain ⟨css, hcs1, hcs2⟩ := HS11.out.H.open_
      have HCS1 := Lib.hid hcs1
      have HCS2 := Lib.hid hcs2
      have HHO := Lib.hid (fun k hk => HS9.out.H.own k hk)
      clear hcs1 hcs2
      refine lex_step rfl (fun K hK => ?_)
      refine wp_append_lies _ _ _ 23 rfl (g + 1) 43 iC _ 4 80 Tryz.underlying23 hiC hC0 hC1 hC2 rfl (by decide) (.slice HA9 x.hard.length Hc9) x.hard.length css.flatten rfl HCS2.out ⟨_, 0, none⟩ 1 1 [.int .i64 kind, (.slice SA9 scope.length Sc9), (.slice none 0 0), (.slice AA9 args.length Ac9)] rfl rfl (World.news_of_block (cs := #[.int .i64 kind, (.slice SA9 scope.length Sc9), (.slice none 0 0), (.slice AA9 args.length Ac9)]) (t := 43) (fr := (0, 0)) (heap_alloc_new V _)) (by simp [Value.oneCell']) (by decide) (by simp only [maxLen]; omega) (by omega) (by simp; omega) (V.heap.size + 1) (by simp) ?_
      intro kb cap V3 hown hgrow hat hlt
      have hF3 : Chg (fun k => (Value.slice HA9 x.hard.length Hc9).ownBlock = some k) V V3 := (Chg.alloc0 V _ _).trans (chg_of_grown hgrow) (fun _ _ h => h)
      have hs12 := HS11.out.addH (by simp) HCS1.out HK11.out hgrow hown (hat_of hat (by simp))
      have hp12 := HP10.out.chg hF3 (fun k hk e => by have := (HHO.out k e).1; omega)
      have hc12 : ConAt w.heap.size V3 kind _ _ _ := hF3.heap HC10.out (fun e => (HHO.out _ e).2.2 (Or.inr ⟨Nat.le_refl _, by have := lt_of_block HC10.out; omega⟩))
      obtain ⟨A12, n12, c12, hb12, _⟩ := hp12
      have y1 := cell_at hb12 (i := 2) rfl
      have yf := Lib.frozen_of_heap hb12 2
      have y2 := cell_at hc12 (i := 0) rfl
      have y3 := cell_at hc12 (i := 1) rfl
      have y4 := cell_at hc12 (i := 2) rfl
      have y5 := cell_at hc12 (i := 3) rfl
      have HS12 := Lib.hid hs12
      have HP12 := Lib.hid (show PB g V3 r _ _ sv from ⟨A12, n12, c12, hb12, by assumption⟩)
      have HG12 := Lib.hid ((HG10.out.mono (fun j _ h => (by omega : g ≤ j))).trans hF3 (fun j hj e => by have := (HHO.out j e).1; omega))
      clear hown hgrow hat hF3 hs12 hc12 hb12
      refine hK _ _ ⟨y1, y2, y3, y4, y5⟩ ?_
      clear hK K
      refine lex_list _ _ _ _ _ rfl (by kernel_rfl) ?_
      go_wp2
      go_end0
      refine ⟨?_, ?_⟩
      · rw [HR.out]
        exact ⟨rfl, _, _, sv, _, HP12.out.setH _, (HS12.out.chg (chg_setCell V3 g 2 _) (fun k hk => by omega)).later (by rw [Go.Deep.nblk_setCell]; exact Nat.le_refl _), HT9.out⟩
      · exact HFB.out _ (HG12.out.trans (chg_setCell V3 g 2 _) (fun j _ e => by omega))
  · have hk6b : (kind == 6) = false := by simpa using hk6
    have hscp := Lib.hid (scope_p g _ ts DA x.doms.length Dc hv sv hp1 hT (by omega))
    rcases hq : scopeQ x.doms.length ts [] with ⟨p, y⟩ | ⟨scope, r⟩
    · have HR : Hid (hardQ x.doms kind ts = .error (p, y)) := Lib.hid (by rw [hardQ, if_neg hk6, hq])
      rw [hq] at hscp
      clear hq hk6 hE hE1 hp hst hT hc1 hp1 hF1 hfb
      go_enter Tryz.func74, Tryz.ntmps74
      go_wp2_with (go_at_call 102; refine hscp.out.mono ?_; rintro e w' ⟨he, hg⟩; obtain rfl : e = wrongs p y := he; refine ⟨rfl, ?_⟩; rw [HR.out]; exact ⟨rfl, HFB.out _ (((Chg.alloc0 w _ (fun _ => False)).mono (fun _ _ h => h.elim)).trans hg (fun j hj e => by omega))⟩)
    · rw [hq] at hscp
      have HRG := Lib.hid (scopeQ_range ts [] scope r hq (fun v h => by simp at h))
      have hrl := scopeQ_len ts [] scope r hq
      by_cases hk2 : kind ≤ 2
      · have hk2b : decide (kind ≤ 2) = true := by simpa using hk2
        have HQ2 := Lib.hid (hardQ_tab hk6 hq hk2)
        clear hq hk6 hk2 hE hE1 hp hst hT hp1 hF1 hfb
        go_enter Tryz.func74, Tryz.ntmps74
        go_wp2_with (go_at_call 102; refine hscp.out.mono ?_; rintro e V2 ⟨⟨vs, rfl, hs9, hsl9, hsl0, hp9, hT9⟩, hg9⟩; obtain ⟨SA9, Sc9, rfl, _, _, _⟩ := hs9.sl (by omega); (have hc9 : ConAt w.heap.size V2 kind _ _ _ := hg9.heap hc1 (fun e => by omega)); (have x1 := cell_at hc9 (i := 1) rfl); (have xf := Lib.frozen_of_heap hc9 1); (have HC2 := Lib.hid hc9); (have HP2 := Lib.hid hp9); (have HT2 := Lib.hid hT9); (have HSL := Lib.hid hs9); (have HG2 := Lib.hid (((Chg.alloc0 w _ (fun _ => False)).mono (fun _ _ h => h.elim)).trans hg9 (fun j hj e => (by omega : j = g ∨ w.heap.size ≤ j)))); clear hs9 hp9 hT9 hg9 hc9 hc1)
        have hsc2 : w.heap.size + 1 ≤ V2.heap.size := by have := lt_of_block HC2.out; omega
        have hc3 : ConAt w.heap.size (V2.setCell ⟨w.heap.size, 1, none⟩ (.slice SA9 scope.length Sc9)) kind (.slice SA9 scope.length Sc9) (.slice none 0 0) (.slice none 0 0) := by
          have := HC2.out
          unfold ConAt at this ⊢; simp [World.setCell, Array.getElem?_modify, this]
        have hg3 := HG2.out.trans (chg_setCell V2 w.heap.size 1 (.slice SA9 scope.length Sc9)) (fun j _ e => Or.inr (by omega))
        have hp3 := HP2.out.chg (chg_setCell V2 w.heap.size 1 (.slice SA9 scope.length Sc9)) (fun k hk e => by omega)
        have hs3 := HSL.out.chg (chg_setCell V2 w.heap.size 1 (.slice SA9 scope.length Sc9)) (fun k hk e => by have := (HSL.out.lt k hk).1; simp at this; omega)
        have hst3 := HST.out.chg hg3 (fun k hk => by omega)
        have hrc := Lib.hid (rows_p g w.heap.size _ r x.doms DA Dc hv sv (.slice none 0 0) _ _ scope SA9 Sc9 kind hp3 HT2.out (by omega) (hst3.D.sl (by omega)) (fun k hk => by
            rcases hk with hk | hk
            · have := hst3.okg k hk; omega
            · have h1 := hst3.D.own k hk; have h2 := hst3.bD k hk; omega)
          (hs3.sl (by omega)) (fun k hk => by have hk' : (w.alloc (.cells #[.int .i64 kind, .slice none 0 0, .slice none 0 0, .slice none 0 0] 43)).heap.size ≤ k := hk; simp at hk'; omega) hsl9 HRG.out hgw hc3)
        have HG3 := Lib.hid hg3
        have HS3 := Lib.hid hs3
        clear hc3 hg3 hp3 hs3 hst3 HC2 HP2 HT2 HSL HG2 x1 xf
        have hszs : w.heap.size ≤ (V2.setCell ⟨w.heap.size, 1, none⟩ (.slice SA9 scope.length Sc9)).heap.size := HG3.out.size
        generalize V2.setCell ⟨w.heap.size, 1, none⟩ (.slice SA9 scope.length Sc9) = V3 at *
        rcases hq2 : tableQ x.doms scope r with ⟨p, y⟩ | ⟨rows, r2⟩
        · have HR : Hid (hardQ x.doms kind ts = .error (p, y)) := Lib.hid (HQ2.out.1 _ hq2)
          rw [hq2] at hrc
          clear hq2
          go_wp2_with (go_at_call 106; refine hrc.out.mono ?_; rintro e w' ⟨he, hg⟩; obtain rfl : e = wrongs p y := he; refine ⟨rfl, ?_⟩; rw [HR.out]; exact ⟨rfl, HFB.out _ ((HG3.out.mono (fun j _ h => (by omega : g ≤ j))).trans hg (fun j hj e => by omega))⟩)
        · have HR : Hid (hardQ x.doms kind ts = .ok (⟨kind, scope, rows, []⟩, r2)) := Lib.hid (HQ2.out.2 _ _ hq2)
          rw [hq2] at hrc
          clear hq2
          go_wp2_with (go_at_call 106; refine hrc.out.mono ?_; rintro e V0 ⟨⟨rv, ok9, rfl, hc9, ho9, hok9, hp9, hT9, hrl9⟩, hg9⟩; obtain ⟨RA9, Rc9, rfl, _, _, _⟩ := ho9.sl (by omega); (have HC9 := Lib.hid hc9); (have HP9 := Lib.hid hp9); (have HT9 := Lib.hid hT9); (have HSL := Lib.hid (HS3.out.chg hg9 (fun k hk e => by have := (HS3.out.lt k hk).1; simp at this; omega))); (have HOR := Lib.hid ho9); (have HOK := Lib.hid hok9); (have HG9 := Lib.hid (HG3.out.trans hg9 (fun j hj e => (by omega : j = g ∨ w.heap.size ≤ j)))); clear hc9 ho9 hok9 hp9 hT9 hg9)
          have hszv := HG9.out.size
          have hs9' : PSt g V0.drew.heap.size V0.drew x (.slice DA x.doms.length Dc) hv sv (fun k => ok k ∨ (w.heap.size ≤ k ∧ k < V0.drew.heap.size)) := (HST.out.chg HG9.out.drew (fun k hk => by omega)).fill hszv hgw
          have HKX := Lib.hid (show kCon.K V0.drew (fun k => ok k ∨ (w.heap.size ≤ k ∧ k < V0.drew.heap.size)) ⟨kind, scope, rows, []⟩ [.int .i64 kind, (.slice SA9 scope.length Sc9), (.slice RA9 rows.length Rc9), (.slice none 0 0)] from con_K (((HSL.out.done (B := w.heap.size) (by omega) (by simp)).below (by decide) (Below.drew (Below.refl _ _))).mono fun _ h => Or.inr h) (((HOR.out.done (B := w.heap.size) (by omega) hszs (fun k hk => by have := HOK.out k hk; omega)).below (by decide) (Below.drew (Below.refl _ _))).mono fun _ h => Or.inr h) ((sl_nil none 0).mono fun _ h => Or.inr h))
          obtain ⟨HA9, Hc9, hHv, _, _, _⟩ := hs9'.H.sl (by omega)
          subst hHv
          have HS9 := Lib.hid hs9'
          have HP10 := Lib.hid HP9.out.drew
          have HG10 := Lib.hid HG9.out.drew
          have hc10 : ConAt w.heap.size V0.drew kind _ _ _ := HC9.out
          obtain ⟨A9, n9, c9, hb9, _⟩ := HP10.out
          have x1 := cell_at hb9 (i := 2) rfl
          have x2 := cell_at hc10 (i := 0) rfl
          have x3 := cell_at hc10 (i := 1) rfl
          have x4 := cell_at hc10 (i := 2) rfl
          have x5 := cell_at hc10 (i := 3) rfl
          have HC10 := Lib.hid hc10
          clear hb9 hc10 hs9' HP9 HG9 HC9 HST
          obtain ⟨iC, hiC, hC0, hC1, hC2⟩ := info_parts (show (Tryz.prog.info? 43).map (fun i => (i.zero, i.size, i.bytes)) = some (some (.agg #[.int .i64 0, .slice none 0 0, .slice none 0 0, .slice none 0 0]), 4, 80) by kernel_rfl)
          refine wp_region_lex (fun w' => w'.cell? ⟨g, 2, none⟩ = some (.slice HA9 x.hard.length Hc9) ∧ w'.cell? ⟨w.heap.size, 0, none⟩ = some (.int .i64 kind) ∧ w'.cell? ⟨w.heap.size, 1, none⟩ = some (.slice SA9 scope.length Sc9) ∧ w'.cell? ⟨w.heap.size, 2, none⟩ = some (.slice RA9 rows.length Rc9) ∧ w'.cell? ⟨w.heap.size, 3, none⟩ = some (.slice none 0 0)) [true, true, true, true, true, true, true, false, false, false, false, false, false] (by kernel_rfl) (by kernel_rfl) (fun c a d v w h => by cases d <;> exact h) ?_
          change wpLex _ _ _ _ _ _ _ _ _ (World.drew V0)
          have hV : V0.heap.size ≤ (World.drew V0).heap.size := Nat.le_refl _
          generalize World.drew V0 = V at *
          repeat (first | (refine lex_take ⟨x1, x2, x3, x4, x5⟩ rfl (fun w' hw' => by (obtain ⟨y1, y2, y3, y4, y5⟩ := hw'; (try go_simp); try rfl)) (fun K hK => ?_); go_simp; refine hK _ _ ?_; clear hK K) | (refine lex_take_on _ _ _ _ ⟨x1, x2, x3, x4, x5⟩ rfl rfl rfl rfl (fun w' hw' => by (obtain ⟨y1, y2, y3, y4, y5⟩ := hw'; (try go_simp); try rfl)) (fun K hK => ?_); go_simp; refine hK _ _ ?_; clear hK K) | (refine lex_take_off _ _ _ _ _ ⟨x1, x2, x3, x4, x5⟩ rfl rfl rfl rfl rfl (fun K hK => ?_); go_simp; refine hK _ _ ?_; clear hK K))
          refine lex_step rfl (fun K hK => ?_)
          go_wp2_with fail
          have z1 := cell_kept (below_alloc1 V (.cells #[.int .i64 kind, (.slice SA9 scope.length Sc9), (.slice RA9 rows.length Rc9), (.slice none 0 0)] 43)) x1
          have z2 := cell_kept (below_alloc1 V (.cells #[.int .i64 kind, (.slice SA9 scope.length Sc9), (.slice RA9 rows.length Rc9), (.slice none 0 0)] 43)) x2
          have z3 := cell_kept (below_alloc1 V (.cells #[.int .i64 kind, (.slice SA9 scope.length Sc9), (.slice RA9 rows.length Rc9), (.slice none 0 0)] 43)) x3
          have z4 := cell_kept (below_alloc1 V (.cells #[.int .i64 kind, (.slice SA9 scope.length Sc9), (.slice RA9 rows.length Rc9), (.slice none 0 0)] 43)) x4
          have z5 := cell_kept (below_alloc1 V (.cells #[.int .i64 kind, (.slice SA9 scope.length Sc9), (.slice RA9 rows.length Rc9), (.slice none 0 0)] 43)) x5
          refine hK _ _ ⟨z1, z2, z3, z4, z5⟩ ?_
          clear hK K z1 z2 z3 z4 z5
          have HS11 := Lib.hid (HS9.out.chg (Chg.alloc0 V (.cells #[.int .i64 kind, (.slice SA9 scope.length Sc9), (.slice RA9 rows.length Rc9), (.slice none 0 0)] 43) (fun _ => False)) (fun _ h => h.elim))
          have HK11 := Lib.hid (kCon.chg HKX.out (Chg.alloc0 V (.cells #[.int .i64 kind, (.slice SA9 scope.length Sc9), (.slice RA9 rows.length Rc9), (.slice none 0 0)] 43) (fun _ => False)) (fun _ _ h => h))
          obtain ⟨css, hcs1, hcs2⟩ := HS11.out.H.open_
          have HCS1 := Lib.hid hcs1
          have HCS2 := Lib.hid hcs2
          have HHO := Lib.hid (fun k hk => HS9.out.H.own k hk)
          clear hcs1 hcs2
          refine lex_step rfl (fun K hK => ?_)
          refine wp_append_lies _ _ _ 23 rfl (g + 1) 43 iC _ 4 80 Tryz.underlying23 hiC hC0 hC1 hC2 rfl (by decide) (.slice HA9 x.hard.length Hc9) x.hard.length css.flatten rfl HCS2.out ⟨_, 0, none⟩ 1 1 [.int .i64 kind, (.slice SA9 scope.length Sc9), (.slice RA9 rows.length Rc9), (.slice none 0 0)] rfl rfl (World.news_of_block (cs := #[.int .i64 kind, (.slice SA9 scope.length Sc9), (.slice RA9 rows.length Rc9), (.slice none 0 0)]) (t := 43) (fr := (0, 0)) (heap_alloc_new V _)) (by simp [Value.oneCell']) (by decide) (by simp only [maxLen]; omega) (by omega) (by simp; omega) (V.heap.size + 1) (by simp) ?_
          intro kb cap V3 hown hgrow hat hlt
          have hF3 : Chg (fun k => (Value.slice HA9 x.hard.length Hc9).ownBlock = some k) V V3 := (Chg.alloc0 V _ _).trans (chg_of_grown hgrow) (fun _ _ h => h)
          have hs12 := HS11.out.addH (by simp) HCS1.out HK11.out hgrow hown (hat_of hat (by simp))
          have hp12 := HP10.out.chg hF3 (fun k hk e => by have := (HHO.out k e).1; omega)
          have hc12 : ConAt w.heap.size V3 kind _ _ _ := hF3.heap HC10.out (fun e => (HHO.out _ e).2.2 (Or.inr ⟨Nat.le_refl _, by have := lt_of_block HC10.out; omega⟩))
          obtain ⟨A12, n12, c12, hb12, _⟩ := hp12
          have y1 := cell_at hb12 (i := 2) rfl
          have yf := Lib.frozen_of_heap hb12 2
          have y2 := cell_at hc12 (i := 0) rfl
          have y3 := cell_at hc12 (i := 1) rfl
          have y4 := cell_at hc12 (i := 2) rfl
          have y5 := cell_at hc12 (i := 3) rfl
          have HS12 := Lib.hid hs12
          have HP12 := Lib.hid (show PB g V3 r2 _ _ sv from ⟨A12, n12, c12, hb12, by assumption⟩)
          have HG12 := Lib.hid ((HG10.out.mono (fun j _ h => (by omega : g ≤ j))).trans hF3 (fun j hj e => by have := (HHO.out j e).1; omega))
          clear hown hgrow hat hF3 hs12 hc12 hb12
          refine hK _ _ ⟨y1, y2, y3, y4, y5⟩ ?_
          clear hK K
          refine lex_list _ _ _ _ _ rfl (by kernel_rfl) ?_
          go_wp2
          go_end0
          refine ⟨?_, ?_⟩
          · rw [HR.out]
            exact ⟨rfl, _, _, sv, _, HP12.out.setH _, (HS12.out.chg (chg_setCell V3 g 2 _) (fun k hk => by omega)).later (by rw [Go.Deep.nblk_setCell]; exact Nat.le_refl _), HT9.out⟩
          · exact HFB.out _ (HG12.out.trans (chg_setCell V3 g 2 _) (fun j _ e => by omega))
      · have hk2b : decide (kind ≤ 2) = false := by simpa using hk2
        have HR : Hid (hardQ x.doms kind ts = .ok (⟨kind, scope, [], []⟩, r)) := Lib.hid (by rw [hardQ, if_neg hk6, hq]; simp only; rw [if_neg hk2])
        clear hq hk6 hk2 hE hE1 hp hst hT hp1 hF1 hfb
        go_enter Tryz.func74, Tryz.ntmps74
        go_wp2_with (go_at_call 102; refine hscp.out.mono ?_; rintro e V2 ⟨⟨vs, rfl, hs9, hsl9, hsl0, hp9, hT9⟩, hg9⟩; obtain ⟨SA9, Sc9, rfl, _, _, _⟩ := hs9.sl (by omega); (have hc9 : ConAt w.heap.size V2 kind _ _ _ := hg9.heap hc1 (fun e => by omega)); (have x1 := cell_at hc9 (i := 1) rfl); (have xf := Lib.frozen_of_heap hc9 1); (have HC2 := Lib.hid hc9); (have HP2 := Lib.hid hp9); (have HT9 := Lib.hid hT9); (have HSL2 := Lib.hid hs9); (have HG2 := Lib.hid (((Chg.alloc0 w _ (fun _ => False)).mono (fun _ _ h => h.elim)).trans hg9 (fun j hj e => (by omega : j = g ∨ w.heap.size ≤ j)))); clear hs9 hp9 hT9 hg9 hc9 hc1)
        have hc3 : ConAt w.heap.size (V2.setCell ⟨w.heap.size, 1, none⟩ (.slice SA9 scope.length Sc9)) kind (.slice SA9 scope.length Sc9) (.slice none 0 0) (.slice none 0 0) := by
          have := HC2.out
          unfold ConAt at this ⊢; simp [World.setCell, Array.getElem?_modify, this]
        have HG9 := Lib.hid (HG2.out.trans (chg_setCell V2 w.heap.size 1 (.slice SA9 scope.length Sc9)) (fun j _ e => Or.inr (by omega)))
        have HP9 := Lib.hid (HP2.out.chg (chg_setCell V2 w.heap.size 1 (.slice SA9 scope.length Sc9)) (fun k hk e => by omega))
        have HSL := Lib.hid (HSL2.out.chg (chg_setCell V2 w.heap.size 1 (.slice SA9 scope.length Sc9)) (fun k hk e => by have := (HSL2.out.lt k hk).1; simp at this; omega))
        have HC9 := Lib.hid hc3
        clear hc3 HC2 HP2 HSL2 HG2 x1 xf
        generalize V2.setCell ⟨w.heap.size, 1, none⟩ (.slice SA9 scope.length Sc9) = V0 at *
        have hszv := HG9.out.size
        have hs9' : PSt g V0.drew.heap.size V0.drew x (.slice DA x.doms.length Dc) hv sv (fun k => ok k ∨ (w.heap.size ≤ k ∧ k < V0.drew.heap.size)) := (HST.out.chg HG9.out.drew (fun k hk => by omega)).fill hszv hgw
        have HKX := Lib.hid (show kCon.K V0.drew (fun k => ok k ∨ (w.heap.size ≤ k ∧ k < V0.drew.heap.size)) ⟨kind, scope, [], []⟩ [.int .i64 kind, (.slice SA9 scope.length Sc9), (.slice none 0 0), (.slice none 0 0)] from con_K (((HSL.out.done (B := w.heap.size) (by omega) (by simp)).below (by decide) (Below.drew (Below.refl _ _))).mono fun _ h => Or.inr h) ((sl_nil none 0).mono fun _ h => Or.inr h) ((sl_nil none 0).mono fun _ h => Or.inr h))
        obtain ⟨HA9, Hc9, hHv, _, _, _⟩ := hs9'.H.sl (by omega)
        subst hHv
        have HS9 := Lib.hid hs9'
        have HP10 := Lib.hid HP9.out.drew
        have HG10 := Lib.hid HG9.out.drew
        have hc10 : ConAt w.heap.size V0.drew kind _ _ _ := HC9.out
        obtain ⟨A9, n9, c9, hb9, _⟩ := HP10.out
        have x1 := cell_at hb9 (i := 2) rfl
        have x2 := cell_at hc10 (i := 0) rfl
        have x3 := cell_at hc10 (i := 1) rfl
        have x4 := cell_at hc10 (i := 2) rfl
        have x5 := cell_at hc10 (i := 3) rfl
        have HC10 := Lib.hid hc10
        clear hb9 hc10 hs9' HP9 HG9 HC9 HST
        obtain ⟨iC, hiC, hC0, hC1, hC2⟩ := info_parts (show (Tryz.prog.info? 43).map (fun i => (i.zero, i.size, i.bytes)) = some (some (.agg #[.int .i64 0, .slice none 0 0, .slice none 0 0, .slice none 0 0]), 4, 80) by kernel_rfl)
        refine wp_region_lex (fun w' => w'.cell? ⟨g, 2, none⟩ = some (.slice HA9 x.hard.length Hc9) ∧ w'.cell? ⟨w.heap.size, 0, none⟩ = some (.int .i64 kind) ∧ w'.cell? ⟨w.heap.size, 1, none⟩ = some (.slice SA9 scope.length Sc9) ∧ w'.cell? ⟨w.heap.size, 2, none⟩ = some (.slice none 0 0) ∧ w'.cell? ⟨w.heap.size, 3, none⟩ = some (.slice none 0 0)) [true, true, true, true, true, true, true, false, false, false, false, false, false] (by kernel_rfl) (by kernel_rfl) (fun c a d v w h => by cases d <;> exact h) ?_
        change wpLex _ _ _ _ _ _ _ _ _ (World.drew V0)
        have hV : V0.heap.size ≤ (World.drew V0).heap.size := Nat.le_refl _
        generalize World.drew V0 = V at *
        repeat (first | (refine lex_take ⟨x1, x2, x3, x4, x5⟩ rfl (fun w' hw' => by (obtain ⟨y1, y2, y3, y4, y5⟩ := hw'; (try go_simp); try rfl)) (fun K hK => ?_); go_simp; refine hK _ _ ?_; clear hK K) | (refine lex_take_on _ _ _ _ ⟨x1, x2, x3, x4, x5⟩ rfl rfl rfl rfl (fun w' hw' => by (obtain ⟨y1, y2, y3, y4, y5⟩ := hw'; (try go_simp); try rfl)) (fun K hK => ?_); go_simp; refine hK _ _ ?_; clear hK K) | (refine lex_take_off _ _ _ _ _ ⟨x1, x2, x3, x4, x5⟩ rfl rfl rfl rfl rfl (fun K hK => ?_); go_simp; refine hK _ _ ?_; clear hK K))
        refine lex_step rfl (fun K hK => ?_)
        go_wp2_with fail
        have z1 := cell_kept (below_alloc1 V (.cells #[.int .i64 kind, (.slice SA9 scope.length Sc9), (.slice none 0 0), (.slice none 0 0)] 43)) x1
        have z2 := cell_kept (below_alloc1 V (.cells #[.int .i64 kind, (.slice SA9 scope.length Sc9), (.slice none 0 0), (.slice none 0 0)] 43)) x2
        have z3 := cell_kept (below_alloc1 V (.cells #[.int .i64 kind, (.slice SA9 scope.length Sc9), (.slice none 0 0), (.slice none 0 0)] 43)) x3
        have z4 := cell_kept (below_alloc1 V (.cells #[.int .i64 kind, (.slice SA9 scope.length Sc9), (.slice none 0 0), (.slice none 0 0)] 43)) x4
        have z5 := cell_kept (below_alloc1 V (.cells #[.int .i64 kind, (.slice SA9 scope.length Sc9), (.slice none 0 0), (.slice none 0 0)] 43)) x5
        refine hK _ _ ⟨z1, z2, z3, z4, z5⟩ ?_
        clear hK K z1 z2 z3 z4 z5
        have HS11 := Lib.hid (HS9.out.chg (Chg.alloc0 V (.cells #[.int .i64 kind, (.slice SA9 scope.length Sc9), (.slice none 0 0), (.slice none 0 0)] 43) (fun _ => False)) (fun _ h => h.elim))
        have HK11 := Lib.hid (kCon.chg HKX.out (Chg.alloc0 V (.cells #[.int .i64 kind, (.slice SA9 scope.length Sc9), (.slice none 0 0), (.slice none 0 0)] 43) (fun _ => False)) (fun _ _ h => h))
        obtain ⟨css, hcs1, hcs2⟩ := HS11.out.H.open_
        have HCS1 := Lib.hid hcs1
        have HCS2 := Lib.hid hcs2
        have HHO := Lib.hid (fun k hk => HS9.out.H.own k hk)
        clear hcs1 hcs2
        refine lex_step rfl (fun K hK => ?_)
        refine wp_append_lies _ _ _ 23 rfl (g + 1) 43 iC _ 4 80 Tryz.underlying23 hiC hC0 hC1 hC2 rfl (by decide) (.slice HA9 x.hard.length Hc9) x.hard.length css.flatten rfl HCS2.out ⟨_, 0, none⟩ 1 1 [.int .i64 kind, (.slice SA9 scope.length Sc9), (.slice none 0 0), (.slice none 0 0)] rfl rfl (World.news_of_block (cs := #[.int .i64 kind, (.slice SA9 scope.length Sc9), (.slice none 0 0), (.slice none 0 0)]) (t := 43) (fr := (0, 0)) (heap_alloc_new V _)) (by simp [Value.oneCell']) (by decide) (by simp only [maxLen]; omega) (by omega) (by simp; omega) (V.heap.size + 1) (by simp) ?_
        intro kb cap V3 hown hgrow hat hlt
        have hF3 : Chg (fun k => (Value.slice HA9 x.hard.length Hc9).ownBlock = some k) V V3 := (Chg.alloc0 V _ _).trans (chg_of_grown hgrow) (fun _ _ h => h)
        have hs12 := HS11.out.addH (by simp) HCS1.out HK11.out hgrow hown (hat_of hat (by simp))
        have hp12 := HP10.out.chg hF3 (fun k hk e => by have := (HHO.out k e).1; omega)
        have hc12 : ConAt w.heap.size V3 kind _ _ _ := hF3.heap HC10.out (fun e => (HHO.out _ e).2.2 (Or.inr ⟨Nat.le_refl _, by have := lt_of_block HC10.out; omega⟩))
        obtain ⟨A12, n12, c12, hb12, _⟩ := hp12
        have y1 := cell_at hb12 (i := 2) rfl
        have yf := Lib.frozen_of_heap hb12 2
        have y2 := cell_at hc12 (i := 0) rfl
        have y3 := cell_at hc12 (i := 1) rfl
        have y4 := cell_at hc12 (i := 2) rfl
        have y5 := cell_at hc12 (i := 3) rfl
        have HS12 := Lib.hid hs12
        have HP12 := Lib.hid (show PB g V3 r _ _ sv from ⟨A12, n12, c12, hb12, by assumption⟩)
        have HG12 := Lib.hid ((HG10.out.mono (fun j _ h => (by omega : g ≤ j))).trans hF3 (fun j hj e => by have := (HHO.out j e).1; omega))
        clear hown hgrow hat hF3 hs12 hc12 hb12
        refine hK _ _ ⟨y1, y2, y3, y4, y5⟩ ?_
        clear hK K
        refine lex_list _ _ _ _ _ rfl (by kernel_rfl) ?_
        go_wp2
        go_end0
        refine ⟨?_, ?_⟩
        · rw [HR.out]
          exact ⟨rfl, _, _, sv, _, HP12.out.setH _, (HS12.out.chg (chg_setCell V3 g 2 _) (fun k hk => by omega)).later (by rw [Go.Deep.nblk_setCell]; exact Nat.le_refl _), HT9.out⟩
        · exact HFB.out _ (HG12.out.trans (chg_setCell V3 g 2 _) (fun j _ e => by omega))
end Go.Proofs.YtoahaigfjfeopaaGreatDoor
