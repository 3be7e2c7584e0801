/- inst.parser: soft. -/
import Derived.Test.YtoahaigfjfeopaaGreatDoorWae
namespace Go.Proofs.YtoahaigfjfeopaaGreatDoor
open Go.RowKit
attribute [local irreducible] wpStill wpLex Calls

theorem costsQ_end {doms : List (List Int)} {scope : List Int} {n : Nat} {rows : List (List Int)} {costs : List Int} {t : Tok} {r : List Tok} (hi : isP t [44] = false) : costsQ doms scope (n + 1) rows costs (t :: r) = .ok ((rows, costs), t :: r) := by
  rw [costsQ]; simp [isQ, hi]
theorem costsQ_row {doms : List (List Int)} {scope : List Int} {n : Nat} {rows : List (List Int)} {costs : List Int} {t : Tok} {r : List Tok} {e : Int × Int} (hi : isP t [44] = true) (h : rowQ doms scope rows r = .error e) : costsQ doms scope (n + 1) rows costs (t :: r) = .error e := by
  rw [costsQ]; simp [isQ, hi, h]
theorem costsQ_num {doms : List (List Int)} {scope : List Int} {n : Nat} {rows rows' : List (List Int)} {costs : List Int} {t : Tok} {r r1 : List Tok} {e : Int × Int} (hi : isP t [44] = true) (h : rowQ doms scope rows r = .ok (rows', r1)) (hn : numberQ 1000000000000 r1 = .error e) :
    costsQ doms scope (n + 1) rows costs (t :: r) = .error e := by
  rw [costsQ]; simp [isQ, hi, h, hn]
theorem costsQ_go {doms : List (List Int)} {scope : List Int} {n : Nat} {rows rows' : List (List Int)} {costs : List Int} {t u : Tok} {r r1 r2 : List Tok} (hi : isP t [44] = true) (h : rowQ doms scope rows r = .ok (rows', r1)) (hn : numberQ 1000000000000 r1 = .ok (u, r2)) :
    costsQ doms scope (n + 1) rows costs (t :: r) = costsQ doms scope n rows' (costs ++ [u.n]) r2 := by
  rw [costsQ]; simp [isQ, hi, h, hn]
theorem softQ_scope {doms : List (List Int)} {ts : List Tok} {e : Int × Int} (h : scopeQ doms.length ts [] = .error e) : softQ doms ts = .error e := by rw [softQ, h]
theorem softQ_sign {doms : List (List Int)} {ts r : List Tok} {scope : List Int} {e : Int × Int} (h : scopeQ doms.length ts [] = .ok (scope, r)) (h1 : signQ [58] r = .error e) : softQ doms ts = .error e := by rw [softQ, h]; simp only [h1]
theorem softQ_num {doms : List (List Int)} {ts r r1 : List Tok} {scope : List Int} {u : Unit} {e : Int × Int} (h : scopeQ doms.length ts [] = .ok (scope, r)) (h1 : signQ [58] r = .ok (u, r1)) (h2 : numberQ 1000000000000 r1 = .error e) : softQ doms ts = .error e := by
  rw [softQ, h]; simp only [h1, h2]
theorem softQ_costs {doms : List (List Int)} {ts r r1 r2 : List Tok} {scope : List Int} {u : Unit} {t : Tok} {e : Int × Int} (h : scopeQ doms.length ts [] = .ok (scope, r)) (h1 : signQ [58] r = .ok (u, r1)) (h2 : numberQ 1000000000000 r1 = .ok (t, r2))
    (h3 : costsQ doms scope (r2.length + 1) [] [] r2 = .error e) : softQ doms ts = .error e := by rw [softQ, h]; simp only [h1, h2, h3]
theorem softQ_ok {doms : List (List Int)} {ts r r1 r2 r3 : List Tok} {scope costs : List Int} {rows : List (List Int)} {u : Unit} {t : Tok} (h : scopeQ doms.length ts [] = .ok (scope, r)) (h1 : signQ [58] r = .ok (u, r1)) (h2 : numberQ 1000000000000 r1 = .ok (t, r2))
    (h3 : costsQ doms scope (r2.length + 1) [] [] r2 = .ok ((rows, costs), r3)) : softQ doms ts = .ok (⟨scope, rows, costs, t.n⟩, r3) := by rw [softQ, h]; simp only [h1, h2, h3]
theorem signQ_ok {s : List UInt8} {t : Tok} {r r1 : List Tok} {u : Unit} (h : signQ s (t :: r) = .ok (u, r1)) : r1 = r := by
  rw [signQ] at h
  split at h
  · injection h with h; injection h with _ h; exact h.symm
  · cases h
theorem sft_K {w : World} {ok : Nat → Prop} {dflt : Int} {vs vr vc : Value} {scope costs : List Int} {rows : List (List Int)} (hs : Sl (Kd.int .i64) w ok vs scope) (hr : Sl kRow w ok vr rows) (hc : Sl (Kd.int .i64) w ok vc costs) :
    kSft.K w ok ⟨scope, rows, costs, dflt⟩ [vs, vr, vc, .int .i64 dflt] :=
  ⟨[_], [_, _, _], rfl, ⟨_, rfl, hs⟩, [_], [_, _], rfl, ⟨_, rfl, hr⟩, [_], [_], rfl, ⟨_, rfl, hc⟩, rfl⟩
/-- A soft constraint in a block of its own. -/
def SftAt (gc : Nat) (w : World) (vs vr vc : Value) (d : Int) : Prop := w.heap[gc]? = some (.cells #[vs, vr, vc, .int .i64 d] 47 (0, 0))
/-- A row of costs of the call's own. -/
abbrev OwnC (base : Nat) (v : Value) (xs : List Int) (w : World) : Prop := OwnD (Kd.int .i64) 2 base (fun _ => False) v xs w
theorem tok_field (k n a : Int) (s : ByteArray) (w : World) : (Instr.field 83 (.agg #[.int .i64 k, .string s, .int .i64 n, .int .i64 a]) 2).run Tryz.prog w = .ok (.int .i64 n) w := by kernel_rfl
def SoftOut (g : Nat) (w' : World) (x : Ins) (e : Ending) (s : Sft) (r : List Tok) : Prop := e = .returned (.tuple #[]) ∧ PAll g w' r { x with soft := x.soft ++ [s] }
def SoftRel (g gc : Nat) (w : World) (doms : List (List Int)) (scope : List Int) (vs : Value) (d : Int) (dv hv sv : Value) (res : PR (List (List Int) × List Int)) (k : Nat) (wr : World) : Prop :=
  ∃ ts' rows costs rv cv ok' n, k = ts'.length ∧ res = costsQ doms scope (n + 1) rows costs ts' ∧ ts'.length ≤ n ∧ rows.length + ts'.length ≤ 200000 ∧ costs.length ≤ rows.length ∧ SftAt gc wr vs rv cv d ∧ OwnD kRow 41 (gc + 1) ok' rv rows wr ∧ OwnC (gc + 1) cv costs wr ∧
    (∀ k, ok' k → gc < k ∧ k < wr.heap.size) ∧ (∀ k, cv.ownBlock = some k → ¬ ok' k) ∧ OwnI w.heap.size vs scope wr ∧ PB g wr ts' dv hv sv ∧ Toks ts' ∧ Chg (fun k => k = g ∨ w.heap.size ≤ k) w wr ∧ gc < wr.heap.size

set_option maxRecDepth 100000 in
set_option maxHeartbeats 4000000 in
theorem soft_p (g : Nat) (w : World) (ts : List Tok) (x : Ins) (h : PAll g w ts x) (hx : x.soft.length ≤ 200) (hd : x.doms.length ≤ 40) (htl : ts.length ≤ 150000) :
    Calls Tryz.prog 73 #[.pointer (some ⟨g, 0, none⟩)] w fun e w' => Out (softQ x.doms ts) (SoftOut g w' x e) e ∧ Below g w w' := by
  obtain ⟨dv, hv, sv, ok, hp, hst, hT⟩ := h
  have hgw := hp.lt
  obtain ⟨DA, Dc, rfl, _, _, _⟩ := hst.D.sl (by omega)
  have hfb : ∀ w', Chg (fun k => g ≤ k) w w' → Below g w w' := fun w' h => h.below (fun k hk e => by omega) (by omega)
  have HFB := Lib.hid hfb
  have HST := Lib.hid hst
  have hscp := Lib.hid (scope_p g _ ts DA x.doms.length Dc hv sv hp hT (by omega))
  obtain ⟨out, hout⟩ : ∃ out, out = softQ x.doms ts := ⟨_, rfl⟩
  rw [← hout]
  have HOUT := Lib.hid hout
  clear hfb hp hst hT hout
  rcases hq : scopeQ x.doms.length ts [] with ⟨p, y⟩ | ⟨scope, r⟩
  · have HR : Hid (out = .error (p, y)) := Lib.hid (by rw [HOUT.out, softQ_scope hq])
    rw [hq] at hscp
    clear hq
    go_enter Tryz.func73, Tryz.ntmps73
    go_wp2_with (go_at_call 102; refine hscp.out.mono ?_; rintro e w' ⟨he, hg⟩; obtain rfl : e = wrongs p y := he; refine ⟨rfl, ?_⟩; rw [HR.out]; exact ⟨rfl, HFB.out _ (hg.mono (fun j hj e => by omega))⟩)
  · rw [hq] at hscp
    have HRG := Lib.hid (scopeQ_range ts [] scope r hq (fun v h => by simp at h))
    have hrl := scopeQ_len ts [] scope r hq
    have HQ := Lib.hid hq
    clear hq
    go_enter Tryz.func73, Tryz.ntmps73
    go_wp2_with (go_at_call 102; refine hscp.out.mono ?_; rintro e V2 ⟨⟨vs, rfl, hs9, hsl9, hsl0, hp9, hT9⟩, hg9⟩; obtain ⟨SA9, Sc9, rfl, _, _, _⟩ := hs9.sl (by omega); (have HP2 := Lib.hid hp9); (have HT2 := Lib.hid hT9); (have HSL2 := Lib.hid hs9); (have HG2 := Lib.hid hg9); clear hs9 hp9 hT9 hg9)
    obtain ⟨t2, r2, rfl⟩ := HT2.out.cons
    have hsz2 := HG2.out.size
    have hsg := sign_q g _ t2 r2 _ hv sv [58] (HP2.out.alloc (.cells #[.slice SA9 scope.length Sc9, .slice none 0 0, .slice none 0 0, .int .i64 0] 47)) HT2.out
    rcases hsq : signQ [58] (t2 :: r2) with ⟨p, y⟩ | ⟨u0, r3⟩
    · have HR : Hid (out = .error (p, y)) := Lib.hid (by rw [HOUT.out, softQ_sign HQ.out hsq])
      rw [hsq] at hsg
      refine hsg.mono ?_
      rintro e w' ⟨he, hg⟩
      obtain rfl : e = wrongs p y := he
      refine ⟨rfl, ?_⟩
      rw [HR.out]
      exact ⟨rfl, HFB.out _ (((HG2.out.mono (fun j _ e => (by omega : g ≤ j))).alloc _).trans hg (fun j hj e => by omega))⟩
    · rw [hsq] at hsg
      refine hsg.mono ?_
      rintro e V3 ⟨⟨rfl, hp3, hT3⟩, hg3⟩
      have hsr := signQ_ok hsq
      obtain ⟨t3, r3, rfl⟩ := hT3.cons
      subst hsr
      have hnm := Lib.hid (number_q g V3 t3 r3 _ _ _ 1000000000000 (by decide) (by decide) hp3)
      have hc3 : SftAt V2.heap.size V3 (.slice SA9 scope.length Sc9) (.slice none 0 0) (.slice none 0 0) 0 := hg3.heap (heap_alloc_new V2 _) (fun e => by omega)
      have HC3 := Lib.hid hc3
      have HS3 := Lib.hid (((HSL2.out.chg (Chg.alloc0 V2 _ (fun _ => False)) (fun _ _ h => h.elim))).chg hg3 (fun k hk e => by have := (HSL2.out.lt k hk).1; omega))
      have HG3 := Lib.hid (((HG2.out.mono (fun j _ e => (Or.inl e : j = g ∨ w.heap.size ≤ j))).alloc _).trans hg3 (fun j hj e => Or.inl e))
      have HT3 := Lib.hid hT3
      have HSQ := Lib.hid hsq
      have hsvo := Lib.hid (fun k hk => HSL2.out.lt k hk)
      clear hsg hp3 hT3 hg3 hsq hc3 HP2 HT2 HSL2 HG2
      rcases hn : numberQ 1000000000000 (t3 :: r3) with ⟨p, y⟩ | ⟨t4, r4⟩
      · have HR : Hid (out = .error (p, y)) := Lib.hid (by rw [HOUT.out, softQ_num HQ.out HSQ.out hn])
        rw [hn] at hnm
        clear hn
        go_wp2_with (go_at_call 101; refine hnm.out.mono ?_; rintro e w' ⟨he, hg⟩; obtain rfl : e = wrongs p y := he; refine ⟨rfl, ?_⟩; rw [HR.out]; exact ⟨rfl, HFB.out _ ((HG3.out.mono (fun j _ e => (by omega : g ≤ j))).trans hg (fun j hj e => by omega))⟩)
      · obtain ⟨h1, h2⟩ := numberQ_ok hn
        injection h1 with h1a h1b
        subst h1a h1b
        rw [hn] at hnm
        have HT4 := Lib.hid (HT3.out.tail h2)
        have HTK : Hid (tokC t3 = [.int .i64 t3.kind, .string ⟨t3.text.toArray⟩, .int .i64 t3.n, .int .i64 t3.at_]) := Lib.hid rfl
        have HN := Lib.hid hn
        have hfld := tok_field
        clear HT3 h2 hn
        go_wp2_with (go_at_call 101; refine hnm.out.mono ?_; rintro e V4 ⟨⟨rfl, hp4⟩, hg4⟩; (have hc4 : SftAt V2.heap.size V4 _ _ _ _ := hg4.heap HC3.out (fun e => by omega)); (have x1 := cell_at hc4 (i := 3) rfl); (have xf := Lib.frozen_of_heap hc4 3); (have HC4 := Lib.hid hc4); (have HP4 := Lib.hid hp4); (have HG4 := Lib.hid (HG3.out.trans hg4 (fun j _ e => Or.inl e))); (have HS4 := Lib.hid (HS3.out.chg hg4 (fun k hk e => by have := (HS3.out.lt k hk).1; omega))); clear hc4 hp4 hg4; rw [HTK.out])
        have hc5 : SftAt V2.heap.size (V4.setCell ⟨V2.heap.size, 3, none⟩ (.int .i64 t3.n)) (.slice SA9 scope.length Sc9) (.slice none 0 0) (.slice none 0 0) t3.n := by
          have := HC4.out
          unfold SftAt at this ⊢; simp [World.setCell, Array.getElem?_modify, this]
        have HC5 := Lib.hid hc5
        have HP5 := Lib.hid (HP4.out.chg (chg_setCell V4 V2.heap.size 3 (.int .i64 t3.n)) (fun k hk e => by omega))
        have HG5 := Lib.hid (HG4.out.trans (chg_setCell V4 V2.heap.size 3 (.int .i64 t3.n)) (fun j hj e => Or.inr (by omega)))
        have HS5 := Lib.hid (HS4.out.chg (chg_setCell V4 V2.heap.size 3 (.int .i64 t3.n)) (fun k hk e => by have := (hsvo.out k hk).2; omega))
        obtain ⟨res, hres⟩ : ∃ res, res = costsQ x.doms scope (r3.length + 1) [] [] r3 := ⟨_, rfl⟩
        have HRES := Lib.hid hres
        have HOK := Lib.hid (show (∀ e, res = .error e → out = .error e) ∧ (∀ rows costs r4, res = .ok ((rows, costs), r4) → out = .ok (⟨scope, rows, costs, t3.n⟩, r4)) from
          ⟨fun e h => by rw [HOUT.out]; exact softQ_costs HQ.out HSQ.out HN.out (hres.symm.trans h), fun rows costs r4 h => by rw [HOUT.out]; exact softQ_ok HQ.out HSQ.out HN.out (hres.symm.trans h)⟩)
        have hl3 : r3.length ≤ 150000 := by simp at hrl; omega
        clear hc5 HC4 HP4 HG4 HS4 x1 xf hres HOUT HQ HSQ HN HC3 HS3 HG3 hnm hscp
        generalize V4.setCell ⟨V2.heap.size, 3, none⟩ (.int .i64 t3.n) = V5 at *
        have hgsz : w.heap.size ≤ V2.heap.size := hsz2
        generalize V2.heap.size = gs at *
        go_loopg [12] r3.length (fun k _ wr => SoftRel g gs w x.doms scope (.slice SA9 scope.length Sc9) t3.n (.slice DA x.doms.length Dc) hv sv res k wr)
        case atStart => exact ⟨r3, [], [], _, _, (fun _ => False), r3.length, rfl, HRES.out, Nat.le_refl _, by simp; omega, Nat.le_refl _, HC5.out, OwnD.nil _ _ _ _ _, OwnD.nil _ _ _ _ _, fun _ h => h.elim, fun _ _ h => h, HS5.out, HP5.out, HT4.out, HG5.out, lt_of_block HC5.out⟩
        case round =>
          clear HC5 HP5 HG5 HS5 HT4
          obtain ⟨ts3, rows, costs, rv, cv, ok3, fu, hk, hq, hfu, hal, hlc, hc, ho, hoc, hok, hcok, hs, hp, hT3, hch, hsz⟩ := hrel
          obtain ⟨t5, r5, rfl⟩ := hT3.cons
          obtain ⟨RA, Rc, rfl, _, _, _⟩ := ho.sl (by omega)
          obtain ⟨CA, Cc, rfl, _, _, _⟩ := hoc.sl (by omega)
          have hisc := Lib.hid (is_any g _ t5 r5 _ hv sv [44] hp)
          have HK := Lib.hid hk
          have HQ := Lib.hid hq
          have HC := Lib.hid hc
          have HO := Lib.hid ho
          have HOC := Lib.hid hoc
          have HOK3 := Lib.hid hok
          have HCK := Lib.hid hcok
          have HS := Lib.hid hs
          have HT := Lib.hid hT3
          have HG := Lib.hid hch
          clear hk hq hc ho hoc hok hcok hs hp hT3 hch
          by_cases hi5 : isP t5 [44] = true
          · have hT6 := HT.out.tail (isP_kind hi5)
            simp only [hi5, if_true] at hisc
            have HI5 := Lib.hid hi5
            clear hi5 HT
            go_wp2_with (go_at_call 103; refine hisc.out.mono ?_; rintro e V6 ⟨rfl, hp6, hg6⟩; (have hf6 := chg_g hg6 (fun k => k = g) rfl); (have hc6 : SftAt gs V6 _ _ _ _ := hf6.heap HC.out (fun e => by omega)); (have x1 := cell_at hc6 (i := 0) rfl); (have x2 := cell_at hc6 (i := 1) rfl); (have HC6 := Lib.hid hc6); (have HP6 := Lib.hid hp6); (have HF6 := Lib.hid hf6); clear hc6 hp6 hg6 hf6)
            have ho6 := HO.out.chg HF6.out (fun k hk e => by have := HOK3.out k hk; omega) (fun k hk e => by have := HO.out.own k hk; omega)
            have hoc6 := HOC.out.chg HF6.out (fun k hk e => hk) (fun k hk e => by have := HOC.out.own k hk; omega)
            have hs6 := HS.out.chg HF6.out (fun k hk e => by have := (HS.out.lt k hk).1; omega)
            have hg6 := HG.out.trans HF6.out (fun j _ e => Or.inl e)
            have hsz6 := HF6.out.size
            have hst6 := HST.out.chg hg6 (fun k hk => by omega)
            have hrc := row_p g (gs + 1) V6 r5 x.doms DA Dc hv sv _ _ ok3 scope SA9 Sc9 rows _ HP6.out hT6 (hst6.D.sl (by omega)) (fun k hk => by
                rcases hk with hk | hk
                · exact (hst6.okg k hk).1
                · have := hst6.D.own k hk; omega)
              (hs6.sl (by omega)) (fun k hk => by have hk' : w.heap.size ≤ k := hk; omega) hsl9 HRG.out ho6 (by omega) (by omega) (fun k hk => by have := HOK3.out k hk; omega) (by omega)
            have hvr : ∀ k, (Value.slice SA9 scope.length Sc9).ownBlock = some k → ¬ (Value.slice RA rows.length Rc).ownBlock = some k := fun k hk e => by
              have h1 := (hsvo.out k hk).2; have h2 := (HO.out.own k e).1; omega
            have hcr : ∀ k, (Value.slice CA costs.length Cc).ownBlock = some k → ¬ (Value.slice RA rows.length Rc).ownBlock = some k := hoc6.apart ho6 (by decide)
            have HRC := Lib.hid hrc
            have HOC6 := Lib.hid hoc6
            have HS6 := Lib.hid hs6
            have HG6 := Lib.hid hg6
            have HVR := Lib.hid hvr
            have HCR := Lib.hid hcr
            have HRO := Lib.hid (fun k hk => HO.out.own k hk)
            have HCO := Lib.hid (fun k hk => hoc6.own k hk)
            clear ho6 hoc6 hs6 hg6 hst6 hrc hvr hcr x1 x2 HP6
            rcases hrq : rowQ x.doms scope rows r5 with ⟨p, y⟩ | ⟨rows2, r6⟩
            · have HR : Hid (out = .error (p, y)) := Lib.hid (HOK.out.1 _ (by rw [HQ.out]; exact costsQ_row HI5.out hrq))
              rw [hrq] at HRC
              clear hrq
              refine HRC.out.mono ?_
              rintro e w' ⟨he, hg⟩
              obtain rfl : e = wrongs p y := he
              refine ⟨rfl, ?_⟩
              rw [HR.out]
              exact ⟨rfl, HFB.out _ ((HG6.out.mono (fun j _ e => (by omega : g ≤ j))).trans hg (fun j hj e => by
                rcases e with e | e
                · omega
                · have := (HRO.out j e).1; omega))⟩
            · have hln0 := rowQ_len hrq
              have hln := hln0.1
              have hrl2 : rows2.length ≤ rows.length + 1 := by omega
              have hrl3 : rows.length + 1 ≤ rows2.length := by omega
              have HRQ := Lib.hid hrq
              rw [hrq] at HRC
              clear hrq hln0
              refine HRC.out.mono ?_
              rintro e V7 ⟨⟨v7, ok7, rfl, ho7, hok7, hp7, hT7, hat7⟩, hg7⟩
              obtain ⟨RB, Rd, rfl, _, _, _⟩ := ho7.sl (by omega)
              obtain ⟨t7, r7, rfl⟩ := hT7.cons
              have hc7 : SftAt gs V7 _ _ _ _ := hg7.heap HC6.out (fun e => by
                rcases e with e | e
                · omega
                · have := (HRO.out gs e).1; omega)
              have x2 := cell_at hc7 (i := 1) rfl
              have xf := Lib.frozen_of_heap hc7 1
              have hsz7 := hg7.size
              have hc8 : SftAt gs (V7.setCell ⟨gs, 1, none⟩ (.slice RB rows2.length Rd)) (.slice SA9 scope.length Sc9) (.slice RB rows2.length Rd) (.slice CA costs.length Cc) t3.n := by
                unfold SftAt at hc7 ⊢; simp [World.setCell, Array.getElem?_modify, hc7]
              have hF8 : Chg (fun k => k = g ∨ k = gs ∨ (Value.slice RA rows.length Rc).ownBlock = some k) V6 (V7.setCell ⟨gs, 1, none⟩ (.slice RB rows2.length Rd)) := (hg7.mono (fun j _ h => by rcases h with h | h; exact Or.inl h; exact Or.inr (Or.inr h))).trans (chg_setCell V7 gs 1 _) (fun j _ e => Or.inr (Or.inl e))
              have hs8 := HS6.out.chg hF8 (fun k hk e => by
                have h1 := (hsvo.out k hk)
                rcases e with e | e | e
                · omega
                · omega
                · exact HVR.out k hk e)
              have hoc8 := HOC6.out.chg hF8 (fun k hk e => hk) (fun k hk e => by
                have h1 := HCO.out k hk
                rcases e with e | e | e
                · omega
                · omega
                · exact HCR.out k hk e)
              have ho8 := ho7.chg (chg_setCell V7 gs 1 (.slice RB rows2.length Rd)) (fun k hk e => by
                rcases hok7 k hk with h | h
                · have := HOK3.out k h; omega
                · omega) (fun k hk e => by have := ho7.own k hk; omega)
              have hp8 := hp7.chg (chg_setCell V7 gs 1 (.slice RB rows2.length Rd)) (fun k hk e => by omega)
              have hg8 := HG6.out.trans hF8 (fun j hj e => by
                rcases e with e | e | e
                · exact Or.inl e
                · exact Or.inr (by omega)
                · have := (HRO.out j e).1; exact Or.inr (by omega))
              have hck8 : ∀ k, (Value.slice CA costs.length Cc).ownBlock = some k → ¬ ok7 k := fun k hk h => by
                rcases hok7 k h with h | h
                · exact HCK.out k hk h
                · have := (HCO.out k hk).2.1; omega
              have hok8 : ∀ k, ok7 k → gs < k ∧ k < V7.heap.size := fun k hk => by
                rcases hok7 k hk with h | h
                · have := HOK3.out k h; omega
                · omega
              have hnm8 := Lib.hid (number_q g _ t7 r7 _ _ _ 1000000000000 (by decide) (by decide) hp8.drew)
              have HC8 := Lib.hid hc8
              have HS8 := Lib.hid hs8
              have HOC8 := Lib.hid hoc8
              have HO8 := Lib.hid ho8
              have HG8 := Lib.hid hg8
              have HCK8 := Lib.hid hck8
              have HOK8 := Lib.hid hok8
              have HT7 := Lib.hid hT7
              have hszs : V7.heap.size ≤ (V7.setCell ⟨gs, 1, none⟩ (.slice RB rows2.length Rd)).heap.size := by rw [Go.Deep.nblk_setCell]; exact Nat.le_refl _
              clear ho7 hok7 hp7 hT7 hat7 hg7 hc7 hc8 hF8 hs8 hoc8 ho8 hp8 hg8 hck8 hok8 HC6 HS6 HOC6 HG6 HC HO HOC HS HG hisc
              go_wp2_with fail
              obtain ⟨i6, hi6, hz0, hz1, hz2⟩ := info_parts (show (Tryz.prog.info? 2).map (fun i => (i.zero, i.size, i.bytes)) = some (some (.int .i64 0), 1, 8) by kernel_rfl)
              have hc8' : SftAt gs (V7.setCell ⟨gs, 1, none⟩ (.slice RB rows2.length Rd)).drew _ _ _ _ := HC8.out
              have x1 := cell_at hc8' (i := 2) rfl
              refine wp_region_lex (fun w' => w'.cell? ⟨gs, 2, none⟩ = some (.slice CA costs.length Cc)) [true, true, true, false, false, false, false, false, false] (by kernel_rfl) (by kernel_rfl) (fun c a d v w h => by cases d <;> exact h) ?_
              change wpLex _ _ _ _ _ _ _ _ _ (World.drew (V7.setCell ⟨gs, 1, none⟩ (.slice RB rows2.length Rd)))
              have HC9 := Lib.hid hc8'
              have HG9 := Lib.hid HG8.out.drew
              have HS9 := Lib.hid (HS8.out.chg (chg_of_below (Below.drew (Below.refl _ _)) (fun _ => False)) (fun _ _ h => h.elim))
              have HOC9 := Lib.hid (HOC8.out.chg (chg_of_below (Below.drew (Below.refl _ _)) (fun _ => False)) (fun _ h => h.elim) (fun _ _ h => h.elim))
              have HO9 := Lib.hid (HO8.out.chg (chg_of_below (Below.drew (Below.refl _ _)) (fun _ => False)) (fun _ _ h => h.elim) (fun _ _ h => h.elim))
              have hszd : V7.heap.size ≤ (World.drew (V7.setCell ⟨gs, 1, none⟩ (.slice RB rows2.length Rd))).heap.size := hszs
              clear hc8' HC8 HG8 HS8 HOC8 HO8 hszs
              generalize World.drew (V7.setCell ⟨gs, 1, none⟩ (.slice RB rows2.length Rd)) = V8 at *
              repeat (first | (refine lex_take x1 rfl (fun w' hw' => by (obtain y1 := hw'; (try go_simp); try rfl)) (fun K hK => ?_); go_simp; refine hK _ _ ?_; clear hK K) | (refine lex_take_on _ _ _ _ x1 rfl rfl rfl rfl (fun w' hw' => by (obtain y1 := hw'; (try go_simp); try rfl)) (fun K hK => ?_); go_simp; refine hK _ _ ?_; clear hK K) | (refine lex_take_off _ _ _ _ _ x1 rfl rfl rfl rfl rfl (fun K hK => ?_); go_simp; refine hK _ _ ?_; clear hK K))
              refine lex_step rfl (fun K hK => ?_)
              rcases hn7 : numberQ 1000000000000 (t7 :: r7) with ⟨p, y⟩ | ⟨t8, r8⟩
              · have HR : Hid (out = .error (p, y)) := Lib.hid (HOK.out.1 _ (by rw [HQ.out]; exact costsQ_num HI5.out HRQ.out hn7))
                rw [hn7] at hnm8
                clear hn7
                go_wp2_with (go_at_call 101; refine hnm8.out.mono ?_; rintro e w' ⟨he, hg⟩; obtain rfl : e = wrongs p y := he; refine ⟨rfl, ?_⟩; rw [HR.out]; exact ⟨rfl, HFB.out _ ((HG9.out.mono (fun j _ e => (by omega : g ≤ j))).trans hg (fun j hj e => by omega))⟩)
              · have HR : Hid (res = costsQ x.doms scope fu rows2 (costs ++ [t8.n]) r8) := Lib.hid (by rw [HQ.out]; exact costsQ_go HI5.out HRQ.out hn7)
                obtain ⟨hz8, hk8⟩ := numberQ_ok hn7
                injection hz8 with hz8a hz8b
                subst hz8a hz8b
                have HT8 := Lib.hid (HT7.out.tail hk8)
                rw [hn7] at hnm8
                have HTK7 : Hid (tokC t7 = [.int .i64 t7.kind, .string ⟨t7.text.toArray⟩, .int .i64 t7.n, .int .i64 t7.at_]) := Lib.hid rfl
                clear hn7 hk8 HQ HRQ HI5
                go_wp2_with (go_at_call 101; refine hnm8.out.mono ?_; rintro e V9 ⟨⟨rfl, hp9⟩, hg9⟩; rw [HTK7.out])
                have hc9 : SftAt gs V9 _ _ _ _ := hg9.heap HC9.out (fun e => by omega)
                have z1 := cell_at hc9 (i := 2) rfl
                have HC10 := Lib.hid hc9
                have HP10 := Lib.hid hp9
                have HG10 := Lib.hid (HG9.out.trans hg9 (fun j _ e => Or.inl e))
                have HS10 := Lib.hid (HS9.out.chg hg9 (fun k hk e => by have := (HS9.out.lt k hk).1; omega))
                have HO10 := Lib.hid (HO9.out.chg hg9 (fun k hk e => by have := HOK8.out k hk; omega) (fun k hk e => by have := HO9.out.own k hk; omega))
                have hoc10 := HOC9.out.chg hg9 (fun k hk e => hk) (fun k hk e => by have := HOC9.out.own k hk; omega)
                have hoc11 := hoc10.chg (Chg.alloc0 V9 (.cells #[.int .i64 t7.n] 2) (fun _ => False)) (fun _ h => h.elim) (fun _ _ h => h.elim)
                obtain ⟨css, hcs1, hcs2⟩ := hoc11.open_
                have HCS1 := Lib.hid hcs1
                have HCS2 := Lib.hid hcs2
                have HCO2 := Lib.hid (fun k hk => hoc10.own k hk)
                have HAP := Lib.hid (hoc10.apart HO10.out (by decide))
                have hsz9 := hg9.size
                clear hc9 hp9 hg9 hoc10 hoc11 hcs1 hcs2 HC9 HG9 HS9 HOC9 HO9 x1 hnm8
                refine hK _ _ z1 ?_
                clear hK K
                refine lex_step rfl (fun K hK => ?_)
                go_wp2_with fail
                refine hK _ _ z1 ?_
                clear hK K
                refine lex_step rfl (fun K hK => ?_)
                go_wp2_with fail
                have z2 := cell_kept (below_alloc1 V9 (.cells #[.int .i64 t7.n] 2)) z1
                refine hK _ _ z2 ?_
                clear hK K
                refine lex_step rfl (fun K hK => ?_)
                refine wp_append_lies _ _ _ 45 rfl (gs + 1) 2 i6 _ 1 8 Tryz.underlying45 hi6 hz0 hz1 hz2 rfl (by decide) (.slice CA costs.length Cc) costs.length css.flatten rfl HCS2.out ⟨_, 0, none⟩ 1 1 [.int .i64 t7.n] rfl rfl (World.news_of_block (cs := #[.int .i64 t7.n]) (t := 2) (fr := (0, 0)) (heap_alloc_new V9 _)) (by simp [Value.oneCell']) (by decide) (by simp only [maxLen]; omega) (by omega) (by simp; omega) (V9.heap.size + 1) (by simp) ?_
                intro kb cap V10 hown hgrow hat hlt
                have hF10 : Chg (fun k => (Value.slice CA costs.length Cc).ownBlock = some k) V9 V10 := (Chg.alloc0 V9 _ _).trans (chg_of_grown hgrow) (fun _ _ h => h)
                have hoc12 : OwnC (gs + 1) (.slice (some ⟨kb, 0, none⟩) (costs.length + 1) cap) (costs ++ [t7.n]) V10 := OwnD.snoc (d := Kd.int .i64) (x := t7.n) (cs := [.int .i64 t7.n]) HCS1.out.1 HCS1.out.2.1 HCS1.out.2.2 rfl hgrow hown (hat_of hat (by simp)) (fun k h => h.elim)
                have hc12 : SftAt gs V10 _ _ _ _ := hF10.heap HC10.out (fun e => by have := (HCO2.out gs e).1; omega)
                have y1 := cell_at hc12 (i := 2) rfl
                have yf := Lib.frozen_of_heap hc12 2
                have HF10 := Lib.hid hF10
                have HOC12 := Lib.hid hoc12
                have HC12 := Lib.hid hc12
                have hkb : ∀ k, (Value.slice (some ⟨kb, 0, none⟩) (costs.length + 1) cap).ownBlock = some k → ¬ ok7 k := fun k hk h => by
                  have h3 : kb = k := by simpa [Value.ownBlock] using hk
                  rcases hat with h4 | h4
                  · exact HCK8.out k (h3 ▸ h4) h
                  · have := HOK8.out k h; omega
                have HKB := Lib.hid hkb
                have hsz10 := hF10.size
                clear hown hgrow hat hF10 hoc12 hc12 hkb z1 z2
                refine hK _ _ y1 ?_
                clear hK K
                refine lex_list _ _ _ _ _ rfl (by kernel_rfl) ?_
                obtain ⟨f2, hf2⟩ : ∃ f2, fu = f2 + 1 := ⟨fu - 1, by simp only [List.length_cons] at hfu hln; omega⟩
                rw [hf2] at HR
                have HK2 := Lib.hid (show r7.length < gk by have := HK.out; simp only [List.length_cons] at this hln; omega)
                go_wp2
                have hF12 : Chg (fun k => k = gs ∨ (Value.slice CA costs.length Cc).ownBlock = some k) V9 (V10.setCell ⟨gs, 2, none⟩ (.slice (some ⟨kb, 0, none⟩) (costs.length + 1) cap)) := (HF10.out.mono (fun _ _ h => Or.inr h)).trans (chg_setCell V10 gs 2 _) (fun _ _ h => Or.inl h)
                go_roundg r7.length
                case rel =>
                  simp only [List.length_cons] at hfu hln hal
                  refine ⟨r7, rows2, costs ++ [t7.n], .slice RB rows2.length Rd, .slice (some ⟨kb, 0, none⟩) (costs.length + 1) cap, ok7, f2, rfl, HR.out, by omega, by omega, by simp; omega, ?_, ?_, ?_, ?_, HKB.out, ?_, ?_, HT8.out, ?_, ?_⟩
                  · have := HC12.out
                    unfold SftAt at this ⊢; simp [World.setCell, Array.getElem?_modify, this]
                  · refine HO10.out.chg hF12 (fun k hk e => ?_) (fun k hk e => ?_)
                    · rcases e with e | e
                      · have := HOK8.out k hk; omega
                      · exact HCK8.out k e hk
                    · rcases e with e | e
                      · have := HO10.out.own k hk; omega
                      · exact HAP.out k e hk
                  · exact HOC12.out.chg (chg_setCell V10 gs 2 _) (fun _ h => h.elim) (fun k hk e => by have := HOC12.out.own k hk; omega)
                  · intro k hk
                    have := HOK8.out k hk
                    rw [Go.Deep.nblk_setCell]; omega
                  · refine HS10.out.chg hF12 (fun k hk e => ?_)
                    have h1 := hsvo.out k hk
                    rcases e with e | e
                    · omega
                    · have := (HCO2.out k e).1; omega
                  · exact HP10.out.chg hF12 (fun k hk e => by
                      rcases e with e | e
                      · omega
                      · have := (HCO2.out k e).1; omega)
                  · exact HG10.out.trans hF12 (fun j hj e => by
                      rcases e with e | e
                      · exact Or.inr (by omega)
                      · have := (HCO2.out j e).1; exact Or.inr (by omega))
                  · rw [Go.Deep.nblk_setCell]; have := lt_of_block HC12.out; omega
                case measure => exact HK2.out
          · have hi5 := Bool.eq_false_iff.2 hi5
            simp only [hi5, if_false, Bool.false_eq_true] at hisc
            have HR : Hid (out = .ok (⟨scope, rows, costs, t3.n⟩, t5 :: r5)) := Lib.hid (HOK.out.2 _ _ _ (by rw [HQ.out]; exact costsQ_end hi5))
            clear hi5
            go_wp2_with (go_at_call 103; refine hisc.out.mono ?_; rintro e V0 ⟨rfl, hp6, hg6⟩; (have hf6 := chg_g hg6 (fun k => k = g) rfl); (have HP9 := Lib.hid hp6.drew); (have HF9 := Lib.hid hf6.drew); clear hp6 hg6 hf6)
            have HG9 := Lib.hid (HG.out.trans HF9.out (fun j _ e => Or.inl e))
            have hc10 : SftAt gs V0.drew _ _ _ _ := HF9.out.heap HC.out (fun e => by omega)
            have ho9 := HO.out.chg HF9.out (fun k hk e => by have := HOK3.out k hk; omega) (fun k hk e => by have := HO.out.own k hk; omega)
            have hoc9 := HOC.out.chg HF9.out (fun k hk e => hk) (fun k hk e => by have := HOC.out.own k hk; omega)
            have hs9 := HS.out.chg HF9.out (fun k hk e => by have := (HS.out.lt k hk).1; omega)
            have hszf := HF9.out.size
            have hszv := HG9.out.size
            have hst9 : PSt g V0.drew.heap.size V0.drew x (.slice DA x.doms.length Dc) hv sv (fun k => ok k ∨ (w.heap.size ≤ k ∧ k < V0.drew.heap.size)) := (HST.out.chg HG9.out (fun k hk => by omega)).fill hszv hgw
            have HKX := Lib.hid (show kSft.K V0.drew (fun k => ok k ∨ (w.heap.size ≤ k ∧ k < V0.drew.heap.size)) ⟨scope, rows, costs, t3.n⟩ [.slice SA9 scope.length Sc9, .slice RA rows.length Rc, .slice CA costs.length Cc, .int .i64 t3.n] from
              sft_K ((hs9.done (B := w.heap.size) (by omega) (Nat.le_refl _)).mono fun _ h => Or.inr h) ((ho9.done (B := w.heap.size) (by omega) (by omega) (fun k hk => by have := HOK3.out k hk; omega)).mono fun _ h => Or.inr h) ((hoc9.done (B := w.heap.size) (by omega) (by omega) (fun _ h => h.elim)).mono fun _ h => Or.inr h))
            obtain ⟨HA9, Hc9, hHv, _, _, _⟩ := hst9.S.sl (by omega)
            subst hHv
            have HS9 := Lib.hid hst9
            obtain ⟨A9, n9, c9, hb9, _⟩ := HP9.out
            have x1 := cell_at hb9 (i := 3) rfl
            have x2 := cell_at hc10 (i := 0) rfl
            have x3 := cell_at hc10 (i := 1) rfl
            have x4 := cell_at hc10 (i := 2) rfl
            have x5 := cell_at hc10 (i := 3) rfl
            have HC10 := Lib.hid hc10
            clear hb9 hc10 hst9 HST HF9 HG HC HO HOC HS ho9 hoc9 hs9 hisc
            obtain ⟨iC, hiC, hC0, hC1, hC2⟩ := info_parts (show (Tryz.prog.info? 47).map (fun i => (i.zero, i.size, i.bytes)) = some (some (.agg #[.slice none 0 0, .slice none 0 0, .slice none 0 0, .int .i64 0]), 4, 80) by kernel_rfl)
            go_wp2_with fail
            refine wp_region_lex (fun w' => w'.cell? ⟨g, 3, none⟩ = some (.slice HA9 x.soft.length Hc9) ∧ w'.cell? ⟨gs, 0, none⟩ = some (.slice SA9 scope.length Sc9) ∧ w'.cell? ⟨gs, 1, none⟩ = some (.slice RA rows.length Rc) ∧ w'.cell? ⟨gs, 2, none⟩ = some (.slice CA costs.length Cc) ∧ w'.cell? ⟨gs, 3, none⟩ = some (.int .i64 t3.n)) [true, true, true, true, true, true, true, false, false, false, false, false, false] (by kernel_rfl) (by kernel_rfl) (fun c a d v w h => by cases d <;> exact h) ?_
            change wpLex _ _ _ _ _ _ _ _ _ (World.drew V0)
            generalize World.drew V0 = V at *
            repeat (first | (refine lex_take ⟨x1, x2, x3, x4, x5⟩ rfl (fun w' hw' => by (obtain ⟨y1, y2, y3, y4, y5⟩ := hw'; (try go_simp); try rfl)) (fun K hK => ?_); go_simp; refine hK _ _ ?_; clear hK K) | (refine lex_take_on _ _ _ _ ⟨x1, x2, x3, x4, x5⟩ rfl rfl rfl rfl (fun w' hw' => by (obtain ⟨y1, y2, y3, y4, y5⟩ := hw'; (try go_simp); try rfl)) (fun K hK => ?_); go_simp; refine hK _ _ ?_; clear hK K) | (refine lex_take_off _ _ _ _ _ ⟨x1, x2, x3, x4, x5⟩ rfl rfl rfl rfl rfl (fun K hK => ?_); go_simp; refine hK _ _ ?_; clear hK K))
            refine lex_step rfl (fun K hK => ?_)
            go_wp2_with fail
            have z1 := cell_kept (below_alloc1 V (.cells #[.slice SA9 scope.length Sc9, .slice RA rows.length Rc, .slice CA costs.length Cc, .int .i64 t3.n] 47)) x1
            have z2 := cell_kept (below_alloc1 V (.cells #[.slice SA9 scope.length Sc9, .slice RA rows.length Rc, .slice CA costs.length Cc, .int .i64 t3.n] 47)) x2
            have z3 := cell_kept (below_alloc1 V (.cells #[.slice SA9 scope.length Sc9, .slice RA rows.length Rc, .slice CA costs.length Cc, .int .i64 t3.n] 47)) x3
            have z4 := cell_kept (below_alloc1 V (.cells #[.slice SA9 scope.length Sc9, .slice RA rows.length Rc, .slice CA costs.length Cc, .int .i64 t3.n] 47)) x4
            have z5 := cell_kept (below_alloc1 V (.cells #[.slice SA9 scope.length Sc9, .slice RA rows.length Rc, .slice CA costs.length Cc, .int .i64 t3.n] 47)) x5
            refine hK _ _ ⟨z1, z2, z3, z4, z5⟩ ?_
            clear hK K z1 z2 z3 z4 z5
            have HS11 := Lib.hid (HS9.out.chg (Chg.alloc0 V (.cells #[.slice SA9 scope.length Sc9, .slice RA rows.length Rc, .slice CA costs.length Cc, .int .i64 t3.n] 47) (fun _ => False)) (fun _ h => h.elim))
            have HK11 := Lib.hid (kSft.chg HKX.out (Chg.alloc0 V (.cells #[.slice SA9 scope.length Sc9, .slice RA rows.length Rc, .slice CA costs.length Cc, .int .i64 t3.n] 47) (fun _ => False)) (fun _ _ h => h))
            obtain ⟨css, hcs1, hcs2⟩ := HS11.out.S.open_
            have HCS1 := Lib.hid hcs1
            have HCS2 := Lib.hid hcs2
            have HHO := Lib.hid (fun k hk => HS9.out.S.own k hk)
            clear hcs1 hcs2
            refine lex_step rfl (fun K hK => ?_)
            refine wp_append_lies _ _ _ 24 rfl (g + 1) 47 iC _ 4 80 Tryz.underlying24 hiC hC0 hC1 hC2 rfl (by decide) (.slice HA9 x.soft.length Hc9) x.soft.length css.flatten rfl HCS2.out ⟨_, 0, none⟩ 1 1 [.slice SA9 scope.length Sc9, .slice RA rows.length Rc, .slice CA costs.length Cc, .int .i64 t3.n] rfl rfl (World.news_of_block (cs := #[.slice SA9 scope.length Sc9, .slice RA rows.length Rc, .slice CA costs.length Cc, .int .i64 t3.n]) (t := 47) (fr := (0, 0)) (heap_alloc_new V _)) (by simp [Value.oneCell']) (by decide) (by simp only [maxLen]; omega) (by omega) (by simp; omega) (V.heap.size + 1) (by simp) ?_
            intro kb cap V3 hown hgrow hat hlt
            have hF3 : Chg (fun k => (Value.slice HA9 x.soft.length Hc9).ownBlock = some k) V V3 := (Chg.alloc0 V _ _).trans (chg_of_grown hgrow) (fun _ _ h => h)
            have hs12 := HS11.out.addS (by simp) HCS1.out HK11.out hgrow hown (hat_of hat (by simp))
            have hp12 := HP9.out.chg hF3 (fun k hk e => by have := (HHO.out k e).1; omega)
            have hc12 : SftAt gs V3 _ _ _ _ := hF3.heap HC10.out (fun e => (HHO.out _ e).2.2 (Or.inr ⟨by omega, lt_of_block HC10.out⟩))
            obtain ⟨A12, n12, c12, hb12, hsl12⟩ := hp12
            have y1 := cell_at hb12 (i := 3) rfl
            have yf := Lib.frozen_of_heap hb12 3
            have y2 := cell_at hc12 (i := 0) rfl
            have y3 := cell_at hc12 (i := 1) rfl
            have y4 := cell_at hc12 (i := 2) rfl
            have y5 := cell_at hc12 (i := 3) rfl
            have HS12 := Lib.hid hs12
            have HP12 := Lib.hid (show PB g V3 (t5 :: r5) _ _ _ from ⟨A12, n12, c12, hb12, hsl12⟩)
            have HG12 := Lib.hid ((HG9.out.mono (fun j _ h => (by omega : g ≤ j))).trans hF3 (fun j hj e => by have := (HHO.out j e).1; omega))
            clear hown hgrow hat hF3 hs12 hc12 hb12 hsl12
            refine hK _ _ ⟨y1, y2, y3, y4, y5⟩ ?_
            clear hK K
            refine lex_list _ _ _ _ _ rfl (by kernel_rfl) ?_
            go_wp2
            go_end0
            refine ⟨?_, ?_⟩
            · rw [HR.out]
              exact ⟨rfl, _, hv, _, _, HP12.out.setS _, (HS12.out.chg (chg_setCell V3 g 3 _) (fun k hk => by omega)).later (by rw [Go.Deep.nblk_setCell]; exact Nat.le_refl _), HT.out⟩
            · exact HFB.out _ (HG12.out.trans (chg_setCell V3 g 3 _) (fun j _ e => by omega))
end Go.Proofs.YtoahaigfjfeopaaGreatDoor
