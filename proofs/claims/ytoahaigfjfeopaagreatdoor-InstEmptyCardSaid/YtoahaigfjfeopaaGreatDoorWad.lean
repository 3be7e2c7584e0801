/- inst.parser: linear. -/
import Derived.Test.YtoahaigfjfeopaaGreatDoorWac
namespace Go.Proofs.YtoahaigfjfeopaaGreatDoor
open Go.RowKit
attribute [local irreducible] wpStill wpLex Calls

/-- What linear leaves in the constraint. -/
def LinOut (g gc : Nat) (w w' : World) (kind : Int) (vr dv hv sv : Value) (e : Ending) (aa : List Int × List Int) (r : List Tok) : Prop :=
  ∃ vs va, e = .returned (.tuple #[]) ∧ ConAt gc w' kind vs vr va ∧ OwnI w.heap.size vs aa.2 w' ∧ OwnI w.heap.size va aa.1 w' ∧ aa.2.length ≤ 6 ∧ aa.1.length ≤ 10 ∧ PB g w' r dv hv sv ∧ Toks r
def LinRel (g gc : Nat) (w : World) (nd : Nat) (kind : Int) (vr dv hv sv : Value) (res : PR (List Int × List Int)) (k : Nat) (wr : World) : Prop :=
  ∃ ts' args scope vs va n, k = ts'.length ∧ res = termsQ nd (n + 1) args scope ts' ∧ ts'.length ≤ n ∧ args.length ≤ scope.length ∧ scope.length ≤ 6 ∧ ConAt gc wr kind vs vr va ∧ OwnI w.heap.size vs scope wr ∧ OwnI w.heap.size va args wr ∧ (∀ k, vs.ownBlock = some k → va.ownBlock ≠ some k) ∧
    PB g wr ts' dv hv sv ∧ Toks ts' ∧ Chg (fun k => k = g ∨ k = gc) w wr

abbrev tokO (t : Tok) (tb : ByteArray) : Obj := .cells #[.int .i64 t.kind, .string tb, .int .i64 t.n, .int .i64 t.at_] 83

set_option maxRecDepth 100000 in
set_option maxHeartbeats 4000000 in
theorem linear_p (g gc : Nat) (w : World) (ts : List Tok) (DA : Option Addr) (nd Dc : Nat) (hv sv vr : Value) (kind : Int)
    (h : PB g w ts (.slice DA nd Dc) hv sv) (hT : Toks ts) (hnd : nd ≤ 140737488355328) (hE : ∃ t fr, w.heap[1]? = some (.cells (howsT.map fun l => Value.string ⟨l.toArray⟩).toArray t fr)) (h8 : 8 ≤ g)
    (hgc : g < gc) (hc : ConAt gc w kind (.slice none 0 0) vr (.slice none 0 0)) :
    Calls Tryz.prog 105 #[.pointer (some ⟨g, 0, none⟩), .pointer (some ⟨gc, 0, none⟩)] w fun e w' => Out (linearQ nd ts) (LinOut g gc w w' kind vr (.slice DA nd Dc) hv sv e) e ∧ Chg (fun k => k = g ∨ k = gc) w w' := by
  have hgw := h.lt
  have hgcw := lt_of_block hc
  have HP := Lib.hid h
  have HT := Lib.hid hT
  have HC := Lib.hid hc
  have HE := Lib.hid hE
  obtain ⟨res, hres⟩ : ∃ res, res = termsQ nd (ts.length + 1) [] [] ts := ⟨_, rfl⟩
  obtain ⟨out, hout⟩ : ∃ out, out = linearQ nd ts := ⟨_, rfl⟩
  have HRES := Lib.hid hres
  have HOUT := Lib.hid (show out = _ from hout.trans (by rw [linearQ_eq, ← hres]))
  rw [← hout]
  clear h hT hc hE hres hout
  go_enter Tryz.func105, Tryz.ntmps105
  go_wp2_with fail
  go_loopg [7] ts.length (fun k _ wr => LinRel g gc w nd kind vr (.slice DA nd Dc) hv sv res k wr)
  case atStart => exact ⟨ts, [], [], _, _, ts.length, rfl, HRES.out, Nat.le_refl _, Nat.le_refl _, by simp, HC.out, World.ownsRow_nil _ _ _ _, World.ownsRow_nil _ _ _ _, fun k h => by simp [Value.ownBlock] at h, HP.out, HT.out, Chg.refl _ _⟩
  case round =>
    clear HP HT HC
    obtain ⟨ts3, args, scope, vs, va, fu, hk, hq, hfu, hla, hls, hc, hs, ha, hap, hp, hT, hch⟩ := hrel
    obtain ⟨t3, r3, rfl⟩ := hT.cons
    obtain ⟨SA, Sc, rfl, _, _, _⟩ := hs.sl (by omega)
    obtain ⟨AA, Ac, rfl, _, _, _⟩ := ha.sl (by omega)
    have hnm := Lib.hid (number_q g wr t3 r3 _ _ _ 1000000 (by decide) (by decide) hp)
    have HK := Lib.hid hk
    have HQ := Lib.hid hq
    have HC := Lib.hid hc
    have HS := Lib.hid hs
    have HA := Lib.hid ha
    have HAP := Lib.hid hap
    have HP := Lib.hid hp
    have HT := Lib.hid hT
    have HG := Lib.hid hch
    have hszr := hch.size
    clear hk hq hc hs ha hap hp hT hch
    rcases hn : numberQ 1000000 (t3 :: r3) with ⟨p, x⟩ | ⟨t4, r4⟩
    · have HR : Hid (out = .error (p, x)) := Lib.hid (by rw [HOUT.out, HQ.out, termsQ_num hn])
      rw [hn] at hnm
      clear hn
      go_wp2_with (go_at_call 101; refine hnm.out.mono ?_; rintro e w' ⟨he, hg⟩; obtain rfl : e = wrongs p x := he; refine ⟨rfl, ?_⟩; rw [HR.out]; exact ⟨rfl, HG.out.trans hg (fun j _ e => Or.inl e)⟩)
    · have hok := numberQ_ok hn
      obtain ⟨h1, h2⟩ := hok
      injection h1 with h1a h1b
      subst h1a h1b
      rw [hn] at hnm
      have hT3 := HT.out.tail h2
      obtain ⟨t4, r4, rfl⟩ := hT3.cons
      have HT4 := Lib.hid hT3
      have HTK : Hid (tokC t3 = [.int .i64 t3.kind, .string ⟨t3.text.toArray⟩, .int .i64 t3.n, .int .i64 t3.at_]) := Lib.hid rfl
      generalize (ByteArray.mk t3.text.toArray) = tb at HTK
      have HN := Lib.hid hn
      clear HT hT3 h2 hn
      by_cases h0 : t3.n = 0
      · have HR : Hid (out = .error (t3.at_, 4)) := Lib.hid (by rw [HOUT.out, HQ.out, termsQ_zero HN.out h0])
        have hb0 : (t3.n != 0) = false := by simp [h0]
        have H0 := Lib.hid h0
        clear h0
        go_wp2_with (first
          | (go_at_call 101; refine hnm.out.mono ?_; rintro e W2 ⟨⟨rfl, hp2⟩, hg2⟩; (have HG2 := Lib.hid (HG.out.trans hg2 (fun j _ e => Or.inl e))); clear hp2 hg2; rw [HTK.out])
          | (go_at_call 71; refine (must_no _ _ _ _ _ _ _ (by first | rfl | exact hb0)).mono ?_; rintro e W3 ⟨rfl, hb3⟩; refine ⟨rfl, ?_⟩; rw [HR.out]; exact ⟨rfl, (HG2.out.alloc _).thenBelow hb3⟩))
      · have hb0 : (t3.n != 0) = true := by simp [h0]
        go_wp2_with (first
          | (go_at_call 101; refine hnm.out.mono ?_; rintro e W2 ⟨⟨rfl, hp2⟩, hg2⟩; (have HC2 := Lib.hid hg2); (have HP2 := Lib.hid hp2); clear hp2 hg2; rw [HTK.out])
          | (go_at_call 71; refine (must_yes _ _ _ _ _ _ _ (by first | rfl | exact hb0)).mono ?_; rintro e W3 ⟨rfl, hb3⟩; (have HB3 := Lib.hid hb3); clear hb3))
        have hF : Chg (fun k => k = g) wr W3.drew := ((HC2.out.alloc (tokO t3 tb)).thenBelow HB3.out).drew
        have hX : W3.drew.heap[W2.heap.size]? = some (tokO t3 tb) := block_kept HB3.out (heap_alloc_new W2 _)
        have hk2 := HC2.out.size
        have HX := Lib.hid hX
        have HC4 := Lib.hid (show ConAt gc W3.drew kind (.slice SA scope.length Sc) vr (.slice AA args.length Ac) from hF.heap HC.out (fun e => by omega))
        have HS4 := Lib.hid (HS.out.chg hF (fun k hk e => by have := (HS.out.lt k hk).1; omega))
        have HA4 := Lib.hid (HA.out.chg hF (fun k hk e => by have := (HA.out.lt k hk).1; omega))
        have hp4 : PB g W3.drew (t4 :: r4) (.slice DA nd Dc) hv sv := (((HP2.out.alloc (tokO t3 tb)).grown (below_grown0 HB3.out none) (by simp))).drew
        have HP4 := Lib.hid hp4
        have HG4 := Lib.hid (HG.out.trans hF (fun j _ e => Or.inl e))
        have hsz4 := HG4.out.size
        have hszF := hF.size
        have HAO := Lib.hid (fun k hk => HA.out.lt k hk)
        have HSO := Lib.hid (fun k hk => HS.out.lt k hk)
        clear hF hX hp4 HC2 HP2 HB3 HC HS HA HP HG
        obtain ⟨i0, hi, hz0, hz1, hz2⟩ := info_parts (show (Tryz.prog.info? 3).map (fun i => (i.zero, i.size, i.bytes)) = some (some (.int .i64 0), 1, 8) by kernel_rfl)
        refine wp_region_lex (fun w' => w'.cell? ⟨gc, 3, none⟩ = some (.slice AA args.length Ac) ∧ w'.cell? ⟨W2.heap.size, 2, none⟩ = some (.int .i64 t3.n)) [true, true, true, true, true, true, true, false, false, false, false, false] (by kernel_rfl) (by kernel_rfl) (fun c a d v w h => by cases d <;> exact h) ?_
        change wpLex _ _ _ _ _ _ _ _ _ (World.drew W3)
        generalize World.drew W3 = W at *
        generalize W2.heap.size = k2 at *
        have x1 := cell_at HC4.out (i := 3) rfl
        have x2 := cell_at HX.out (i := 2) rfl
        repeat (first | (refine lex_take ⟨x1, x2⟩ rfl (fun w' hw' => by (obtain ⟨y1, y2⟩ := hw'; (try go_simp); try rfl)) (fun K hK => ?_); go_simp; refine hK _ _ ?_; clear hK K) | (refine lex_take_on _ _ _ _ ⟨x1, x2⟩ rfl rfl rfl rfl (fun w' hw' => by (obtain ⟨y1, y2⟩ := hw'; (try go_simp); try rfl)) (fun K hK => ?_); go_simp; refine hK _ _ ?_; clear hK K) | (refine lex_take_off _ _ _ _ _ ⟨x1, x2⟩ rfl rfl rfl rfl rfl (fun K hK => ?_); go_simp; refine hK _ _ ?_; clear hK K))
        refine lex_step rfl (fun K hK => ?_)
        go_wp2_with fail
        have ha5 : OwnI w.heap.size _ args (W.alloc (.cells #[.int .i64 t3.n] 3)) := HA4.out.chg (Chg.alloc0 W _ (fun _ => False)) (fun _ _ h => h.elim)
        have HA5 := Lib.hid ha5
        have z1 := cell_kept (below_alloc1 W (.cells #[.int .i64 t3.n] 3)) x1
        have z2 := cell_kept (below_alloc1 W (.cells #[.int .i64 t3.n] 3)) x2
        clear ha5
        refine hK _ _ ⟨z1, z2⟩ ?_
        clear hK K
        refine lex_step rfl (fun K hK => ?_)
        refine wp_append_lies _ _ _ 41 rfl w.heap.size 3 i0 _ 1 8 Tryz.underlying41 hi hz0 hz1 hz2 rfl (by decide) (.slice AA args.length Ac) args.length (args.map (Value.int .i64)) rfl HA5.out ⟨_, 0, none⟩ 1 1 [.int .i64 t3.n] rfl rfl (World.news_of_block (cs := #[.int .i64 t3.n]) (t := 3) (fr := (0, 0)) (heap_alloc_new W _)) (by simp [Value.oneCell']) (by decide) (by simp only [maxLen]; omega) (by omega) (by simp; omega) (W.heap.size + 1) (by simp) ?_
        intro kb cap W5 hown hgrow hat hlt
        have hF5 : Chg (fun k => (Value.slice AA args.length Ac).ownBlock = some k) W W5 := (Chg.alloc0 W _ _).trans (chg_of_grown hgrow) (fun _ _ h => h)
        have hc5 : ConAt gc W5 kind (.slice SA scope.length Sc) vr (.slice AA args.length Ac) := hF5.heap HC4.out (fun e => by have := (HAO.out _ e).1; omega)
        have y1 := cell_at hc5 (i := 3) rfl
        have y2 : W5.cell? ⟨k2, 2, none⟩ = some (.int .i64 t3.n) := cell_at (hF5.heap HX.out (fun e => by have := (HAO.out _ e).2; omega)) (i := 2) rfl
        have y3 := cell_at hc5 (i := 1) rfl
        have yf := Lib.frozen_of_heap hc5 3
        have hC6 : ConAt gc (W5.setCell ⟨gc, 3, none⟩ (.slice (some ⟨kb, 0, none⟩) (args.length + 1) cap)) kind (.slice SA scope.length Sc) vr (.slice (some ⟨kb, 0, none⟩) (args.length + 1) cap) := by
          unfold ConAt at hc5 ⊢; simp [World.setCell, Array.getElem?_modify, hc5]
        have hF6 : Chg (fun k => k = gc ∨ (Value.slice AA args.length Ac).ownBlock = some k) W (W5.setCell ⟨gc, 3, none⟩ (.slice (some ⟨kb, 0, none⟩) (args.length + 1) cap)) := (hF5.mono (fun _ _ h => Or.inr h)).trans (chg_setCell W5 gc 3 _) (fun _ _ h => Or.inl h)
        have hS6 := HS4.out.chg hF6 (fun k hk e => by
          rcases e with e | e
          · have := (HSO.out k hk).1; omega
          · exact HAP.out k hk e)
        have hA6 : OwnI w.heap.size (.slice (some ⟨kb, 0, none⟩) (args.length + 1) cap) (args ++ [t3.n]) (W5.setCell ⟨gc, 3, none⟩ (.slice (some ⟨kb, 0, none⟩) (args.length + 1) cap)) := (OwnI.snoc (ys := [t3.n]) hown (by simp)).chg (chg_setCell W5 gc 3 _) (fun k hk e => by
          rcases hat with h | h
          · have h3 : kb = k := by simpa [Value.ownBlock] using hk
            have := (HAO.out kb h).1; omega
          · have h3 : kb = k := by simpa [Value.ownBlock] using hk
            omega)
        have hP6 := HP4.out.chg hF6 (fun k hk e => by
          rcases e with e | e
          · omega
          · have := (HAO.out k e).1; omega)
        have hG6 := HG4.out.trans hF6 (fun j hj e => by
          rcases e with e | e
          · exact Or.inr e
          · have := (HAO.out j e).1; omega)
        have hap6 : ∀ k, (Value.slice SA scope.length Sc).ownBlock = some k → kb ≠ k := fun k hk e => by
          rcases hat with h | h
          · exact HAP.out k hk (by rw [h, e])
          · have := (HSO.out k hk).2; omega
        have hvc := Lib.hid (variable_p g w.heap.size _ t4 r4 DA nd Dc hv sv scope _ hP6 hnd hgw hG6.size hS6 hls)
        have HC6 := Lib.hid hC6
        have HA6 := Lib.hid hA6
        have HP6 := Lib.hid hP6
        have HG6 := Lib.hid hG6
        have HAP6 := Lib.hid hap6
        have HSZ6 := Lib.hid hF6.size
        have HKB : Hid (w.heap.size ≤ kb ∧ kb < (W5.setCell ⟨gc, 3, none⟩ (.slice (some ⟨kb, 0, none⟩) (args.length + 1) cap)).heap.size) := Lib.hid (hA6.lt kb rfl)
        clear hown hgrow hat hF5 hc5 hC6 hF6 hS6 hA6 hP6 hG6 hap6 z1 z2 x1 x2 HC4 HS4 HA4 HP4 HG4 HX HA5
        refine hK _ _ ⟨y1, y2⟩ ?_
        clear hK K
        refine lex_list _ _ _ _ _ rfl (by kernel_rfl) ?_
        rcases hvq : varQ nd scope (t4 :: r4) with ⟨p, x⟩ | ⟨scope', r5⟩
        · have HR : Hid (out = .error (p, x)) := Lib.hid (by rw [HOUT.out, HQ.out, termsQ_var HN.out h0 hvq])
          rw [hvq] at hvc
          clear hvq
          go_wp2_with (go_at_call 117; refine hvc.out.mono ?_; rintro e w' ⟨he, hg⟩; obtain rfl : e = wrongs p x := he; refine ⟨rfl, ?_⟩; rw [HR.out]; exact ⟨rfl, HG6.out.trans hg (fun j hj e => by
            rcases e with e | e
            · exact Or.inl e
            · have := (HSO.out j e).1; omega)⟩)
        · obtain ⟨hv1, rfl, hv2, hv3⟩ := varQ_ok hvq
          have hT5 := HT4.out.tail (by omega)
          obtain ⟨t5, r5, rfl⟩ := hT5.cons
          have HT5 := Lib.hid hT5
          have HVQ := Lib.hid hvq
          have hl6 : scope'.length ≤ 6 := by rw [hv2]; simp; omega
          have hl7 : args.length + 1 ≤ scope'.length := by rw [hv2]; simp; omega
          rw [hvq] at hvc
          clear hvq hv1 hv2 hv3 hT5 HT4
          go_wp2_with (go_at_call 117; refine hvc.out.mono ?_; rintro e W7 ⟨⟨v7, rfl, ho7, hp7, hat7⟩, hg7⟩; obtain ⟨SB, Sd, rfl, _, _, _⟩ := ho7.sl (by omega); (have hc7 : ConAt gc W7 kind (.slice SA scope.length Sc) vr (.slice (some ⟨kb, 0, none⟩) (args.length + 1) cap) := hg7.heap HC6.out (fun e => by rcases e with e | e; omega; have := (HSO.out _ e).1; omega)); (have y4 := cell_at hc7 (i := 1) rfl); (have y5 := Lib.frozen_of_heap hc7 1); (have HC7 := Lib.hid hc7); (have HO7 := Lib.hid ho7); (have HP7 := Lib.hid hp7); (have HAT7 := Lib.hid hat7); (have HG7 := Lib.hid hg7); clear ho7 hp7 hat7 hg7 hc7)
          have hC8 : ConAt gc (W7.setCell ⟨gc, 1, none⟩ (.slice SB scope'.length Sd)) kind (.slice SB scope'.length Sd) vr (.slice (some ⟨kb, 0, none⟩) (args.length + 1) cap) := by
            have := HC7.out
            unfold ConAt at this ⊢; simp [World.setCell, Array.getElem?_modify, this]
          have hO8 := HO7.out.chg (chg_setCell W7 gc 1 (.slice SB scope'.length Sd)) (fun k hk e => by have := (HO7.out.lt k hk).1; omega)
          have hA8 := (HA6.out.chg HG7.out (fun k hk e => by
            have h3 : kb = k := by simpa [Value.ownBlock] using hk
            rcases e with e | e
            · have := HKB.out.1; omega
            · exact HAP6.out k e h3)).chg (chg_setCell W7 gc 1 (.slice SB scope'.length Sd)) (fun k hk e => by
            have h3 : kb = k := by simpa [Value.ownBlock] using hk
            have := HKB.out.1; omega)
          have hP8 := HP7.out.chg (chg_setCell W7 gc 1 (.slice SB scope'.length Sd)) (fun k hk e => by omega)
          have hG8 := (HG6.out.trans HG7.out (fun j hj e => by
            rcases e with e | e
            · exact Or.inl e
            · have := (HSO.out j e).1; omega)).trans (chg_setCell W7 gc 1 (.slice SB scope'.length Sd)) (fun j _ e => Or.inr e)
          have hap8 : ∀ k, (Value.slice SB scope'.length Sd).ownBlock = some k → (Value.slice (some ⟨kb, 0, none⟩) (args.length + 1) cap).ownBlock ≠ some k := fun k hk e => by
            have h3 : kb = k := by simpa [Value.ownBlock] using e
            rcases HAT7.out with h | ⟨k', h, hk'⟩
            · exact HAP6.out k (h ▸ hk) h3
            · rw [hk] at h; injection h with h; have := HKB.out.2; omega
          have hisc := Lib.hid (is_any g _ t5 r5 _ hv sv [44] hP8)
          have hlast : ∀ w'', Chg (fun k => k = g) (W7.setCell ⟨gc, 1, none⟩ (.slice SB scope'.length Sd)) w'' → ConAt gc w'' kind (.slice SB scope'.length Sd) vr (.slice (some ⟨kb, 0, none⟩) (args.length + 1) cap) ∧ OwnI w.heap.size (.slice SB scope'.length Sd) scope' w'' ∧
              OwnI w.heap.size (.slice (some ⟨kb, 0, none⟩) (args.length + 1) cap) (args ++ [t3.n]) w'' ∧ Chg (fun k => k = g ∨ k = gc) w w'' := fun w'' h =>
            ⟨h.heap hC8 (fun e => by omega), hO8.chg h (fun k hk e => by have := (hO8.lt k hk).1; omega), hA8.chg h (fun k hk e => by have := (hA8.lt k hk).1; omega), hG8.trans h (fun j _ e => Or.inl e)⟩
          have HL := Lib.hid hlast
          have HAP8 := Lib.hid hap8
          have hKB1 := HKB.out.1
          clear hC8 hO8 hA8 hP8 hG8 hap8 hlast HC7 HO7 HP7 HAT7 HG7 HC6 HA6 HP6 HG6 HAP6 y4 y5 hvc HSO HAO HKB HSZ6 y1 y2 y3 yf HAP
          by_cases hi5 : isP t5 [44] = true
          · have hT6 := HT5.out.tail (isP_kind hi5)
            simp only [hi5, if_true] at hisc
            have HR : Hid (res = termsQ nd fu (args ++ [t3.n]) scope' r5) := Lib.hid (by rw [HQ.out]; exact termsQ_go HN.out h0 HVQ.out hi5)
            simp only [List.length_cons] at hfu
            obtain ⟨f2, hf2⟩ : ∃ f2, fu = f2 + 1 := ⟨fu - 1, by omega⟩
            rw [hf2] at HR
            have HK2 := Lib.hid (show r5.length < gk by have := HK.out; simp only [List.length_cons] at this; omega)
            have HT6 := Lib.hid hT6
            clear hi5 hT6 HQ
            go_wp2_with (go_at_call 103; refine hisc.out.mono ?_; rintro e w9 ⟨rfl, hp9, hg9⟩; (have HP9 := Lib.hid hp9); (have HG9 := Lib.hid hg9); clear hp9 hg9)
            obtain ⟨q1, q2, q3, q4⟩ := HL.out _ (chg_g HG9.out (fun k => k = g) rfl)
            go_roundg r5.length
            case rel => exact ⟨r5, args ++ [t3.n], scope', _, _, f2, rfl, HR.out, by omega, by simp; omega, hl6, q1, q2, by simpa using q3, HAP8.out, HP9.out, HT6.out, q4⟩
            case measure => exact HK2.out
          · have hi5 := Bool.eq_false_iff.2 hi5
            simp only [hi5, if_false, Bool.false_eq_true] at hisc
            have HR : Hid (out = linTail (args ++ [t3.n]) scope' (t5 :: r5)) := Lib.hid (by rw [HOUT.out, HQ.out, termsQ_end HN.out h0 HVQ.out hi5])
            clear hi5 HQ HVQ HN HOUT HRES
            go_wp2_with (go_at_call 103; refine hisc.out.mono ?_; rintro e w9 ⟨rfl, hp9, hg9⟩; (have HP9 := Lib.hid hp9); (have HG9 := Lib.hid (chg_g hg9 (fun k => k = g) rfl)); clear hp9 hg9)
            have hsg := sign_q g w9 t5 r5 _ hv sv [58] HP9.out HT5.out
            rcases hsq : signQ [58] (t5 :: r5) with ⟨p, x⟩ | ⟨u0, r6⟩
            · have HR2 : Hid (out = .error (p, x)) := Lib.hid (by rw [HR.out, linTail_sign hsq])
              rw [hsq] at hsg
              refine hsg.mono ?_
              rintro e w' ⟨he, hg⟩
              obtain rfl : e = wrongs p x := he
              refine ⟨rfl, ?_⟩
              rw [HR2.out]
              exact ⟨rfl, (HL.out _ (HG9.out.trans hg (fun _ _ e => e))).2.2.2⟩
            · rw [hsq] at hsg
              refine hsg.mono ?_
              rintro e w10 ⟨⟨rfl, hp10, hT6⟩, hg10⟩
              obtain ⟨t6, r6, rfl⟩ := hT6.cons
              have HSQ := Lib.hid hsq
              have HG10 := Lib.hid (HG9.out.trans hg10 (fun _ _ e => e))
              have HT6 := Lib.hid hT6
              have hnx := Lib.hid (next_any g w10 t6 r6 _ hv sv hp10)
              have HTK6 : Hid (tokC t6 = [.int .i64 t6.kind, .string ⟨t6.text.toArray⟩, .int .i64 t6.n, .int .i64 t6.at_]) := Lib.hid rfl
              clear hsq hsg hg10 hT6 hp10 hisc HG9 HP9 HT5
              go_wp2_with (go_at_call 69; refine hnx.out.mono ?_; rintro e w11 ⟨rfl, hp11, hg11⟩; (have HP11 := Lib.hid hp11); (have HG11 := Lib.hid (HG10.out.trans (chg_g hg11 (fun k => k = g) rfl) (fun _ _ e => e))); clear hp11 hg11; rw [HTK6.out])
              have hX := Lib.hid (show (w11.alloc (tokO t6 ⟨t6.text.toArray⟩)).drew.heap[w11.heap.size]? = some (tokO t6 ⟨t6.text.toArray⟩) from heap_alloc_new w11 _)
              have HG12 := Lib.hid (HG11.out.alloc (tokO t6 ⟨t6.text.toArray⟩)).drew
              have HP12 := Lib.hid ((HP11.out.alloc (tokO t6 ⟨t6.text.toArray⟩)).drew)
              clear HP11 HG11 HG10 hnx
              refine wp_region_still_lit (by kernel_rfl) (by kernel_rfl) ?_
              change wpStill _ _ (World.drew (w11.alloc (tokO t6 ⟨t6.text.toArray⟩))) (fun a' => Exit.then _ _ Exit.normal a' (World.drew (w11.alloc (tokO t6 ⟨t6.text.toArray⟩)))) _ _
              obtain ⟨q1, q2, q3, q4⟩ := HL.out _ HG12.out
              have HQ1 := Lib.hid q1
              have HQ2 := Lib.hid q2
              have HQ3 := Lib.hid q3
              have HQ4 := Lib.hid q4
              obtain ⟨th, fh, hh⟩ := HE.out
              have HHW := Lib.hid (q4.heap hh (fun e => by omega))
              have hsz12 := q4.size
              clear q1 q2 q3 q4 HL HG12 hh
              generalize World.drew (w11.alloc (tokO t6 ⟨t6.text.toArray⟩)) = W at *
              generalize w11.heap.size = k6 at *
              have HIX := Lib.hid (words_index t6.text howsT 1 W HHW.out (by decide) 3)
              generalize (ByteArray.mk t6.text.toArray) = tb6 at *
              have d0 := cell_at hX.out (i := 0) rfl
              have d1 := cell_at hX.out (i := 1) rfl
              have d2 := cell_at hX.out (i := 2) rfl
              have d3 := cell_at hX.out (i := 3) rfl
              repeat (first | (refine still_plain rfl (fun K hK => ?_); go_simp; refine hK _ ?_; clear hK K) | (refine still_off _ _ _ _ _ rfl rfl rfl rfl rfl (fun K hK => ?_); go_simp; refine hK _ ?_; clear hK K) | (refine still_on _ _ _ _ rfl rfl rfl rfl (fun K hK => ?_); go_simp; refine hK _ ?_; clear hK K) | (refine still_dead _ _ _ _ rfl rfl rfl rfl (fun K hK => ?_); go_simp; refine hK _ ?_; clear hK K))
              ((first | refine still_plain rfl (fun K hK => ?_) | refine still_on _ _ _ _ rfl rfl rfl rfl (fun K hK => ?_)); go_simp; refine ⟨_, HIX.out, hK _ ?_⟩; clear hK K)
              repeat (first | (refine still_plain rfl (fun K hK => ?_); go_simp; refine hK _ ?_; clear hK K) | (refine still_off _ _ _ _ _ rfl rfl rfl rfl rfl (fun K hK => ?_); go_simp; refine hK _ ?_; clear hK K) | (refine still_on _ _ _ _ rfl rfl rfl rfl (fun K hK => ?_); go_simp; refine hK _ ?_; clear hK K) | (refine still_dead _ _ _ _ rfl rfl rfl rfl (fun K hK => ?_); go_simp; refine hK _ ?_; clear hK K))
              refine wpStill_nil ?_
              generalize hhow : wordFrom t6.text 0 howsT = how at *
              have HH := Lib.hid hhow
              clear hhow
              by_cases hgood : t6.kind = 1 ∧ 0 ≤ how
              · obtain ⟨hk1, hh0⟩ := hgood
                have hk1b : (t6.kind == 1) = true := by simpa using hk1
                have hh0b : decide (0 ≤ how) = true := by simpa using hh0
                have hT7 := HT6.out.tail (by omega)
                obtain ⟨t7, r7, rfl⟩ := hT7.cons
                have HT7 := Lib.hid hT7
                have hpp := HP12.out
                rw [if_neg (by omega)] at hpp
                have HP13 := Lib.hid hpp
                have HK1 := Lib.hid hk1
                clear hT7 HT6 hpp HP12 hk1
                go_wp2_with (go_at_call 71; refine (must_yes _ _ _ _ _ _ _ (by first | rfl | exact hh0b)).mono ?_; rintro e W13 ⟨rfl, hb13⟩; (have HB13 := Lib.hid (hb13.trans (Below.drew (Below.refl W13.heap.size W13) |>.mono hb13.size))); clear hb13 d0 d1 d2 d3)
                have hc13 : ConAt gc W13.drew kind _ vr _ := block_kept HB13.out HQ1.out
                have ho13 := HQ2.out.chg (chg_of_below HB13.out (fun _ => False)) (fun _ _ h => h.elim)
                have ha13 := HQ3.out.chg (chg_of_below HB13.out (fun _ => False)) (fun _ _ h => h.elim)
                have hg13 := HQ4.out.thenBelow HB13.out
                have hp13 := HP13.out.grown (below_grown0 HB13.out none) (by simp)
                have hnm2 := Lib.hid (number_q g W13.drew t7 r7 _ _ _ 1000000 (by decide) (by decide) hp13)
                have HC13 := Lib.hid hc13
                have HO13 := Lib.hid ho13
                have HA13 := Lib.hid ha13
                have HG13 := Lib.hid hg13
                have hsz13 := hg13.size
                clear hc13 ho13 ha13 hg13 hp13 HQ1 HQ2 HQ3 HQ4 HP13 HB13 hX
                have hln : (args ++ [t3.n]).length ≤ 7 := by simp; omega
                generalize hgar : args ++ [t3.n] = args3 at *
                generalize hgs : Value.slice (some ⟨kb, 0, none⟩) (args.length + 1) cap = va3 at *
                have hva : ∃ c3, va3 = .slice (some ⟨kb, 0, none⟩) args3.length c3 := ⟨cap, by rw [← hgs, ← hgar]; simp⟩
                clear hgar hgs
                obtain ⟨c3, rfl⟩ := hva
                have x1 := cell_at HC13.out (i := 3) rfl
                refine wp_region_lex (fun w' => w'.cell? ⟨gc, 3, none⟩ = some (.slice (some ⟨kb, 0, none⟩) args3.length c3)) [true, true, true, true, true, true, true, false, false, false, false, false, false, false] (by kernel_rfl) (by kernel_rfl) (fun c a d v w h => by cases d <;> exact h) ?_
                change wpLex _ _ _ _ _ _ _ _ _ (World.drew W13)
                generalize World.drew W13 = V at *
                repeat (first | (refine lex_take x1 rfl (fun w' hw' => by (obtain y1 := hw'; (try go_simp); try rfl)) (fun K hK => ?_); go_simp; refine hK _ _ ?_; clear hK K) | (refine lex_take_on _ _ _ _ x1 rfl rfl rfl rfl (fun w' hw' => by (obtain y1 := hw'; (try go_simp); try rfl)) (fun K hK => ?_); go_simp; refine hK _ _ ?_; clear hK K) | (refine lex_take_off _ _ _ _ _ x1 rfl rfl rfl rfl rfl (fun K hK => ?_); go_simp; refine hK _ _ ?_; clear hK K))
                refine lex_step rfl (fun K hK => ?_)
                rcases hn7 : numberQ 1000000 (t7 :: r7) with ⟨p, x⟩ | ⟨t8, r8⟩
                · have HR2 : Hid (out = .error (p, x)) := Lib.hid (by rw [HR.out]; exact linTail_num HSQ.out HK1.out (by rw [HH.out]; exact hh0) hn7)
                  rw [hn7] at hnm2
                  clear hn7
                  go_wp2_with (go_at_call 101; refine hnm2.out.mono ?_; rintro e w' ⟨he, hg⟩; obtain rfl : e = wrongs p x := he; refine ⟨rfl, ?_⟩; rw [HR2.out]; exact ⟨rfl, HG13.out.trans hg (fun j _ e => Or.inl e)⟩)
                · have HR2 : Hid (out = .ok ((args3 ++ [how, t8.n], scope'), r8)) := Lib.hid (by rw [HR.out, linTail_ok HSQ.out HK1.out (by rw [HH.out]; exact hh0) hn7, HH.out])
                  obtain ⟨hz8, hk8⟩ := numberQ_ok hn7
                  injection hz8 with hz8a hz8b
                  subst hz8a hz8b
                  have HT8 := Lib.hid (HT7.out.tail hk8)
                  rw [hn7] at hnm2
                  have HTK7 : Hid (tokC t7 = [.int .i64 t7.kind, .string ⟨t7.text.toArray⟩, .int .i64 t7.n, .int .i64 t7.at_]) := Lib.hid rfl
                  clear hn7 hk8
                  go_wp2_with (go_at_call 101; refine hnm2.out.mono ?_; rintro e V2 ⟨⟨rfl, hp2⟩, hg2⟩; rw [HTK7.out])
                  have hc2 : ConAt gc V2 kind _ vr _ := hg2.heap HC13.out (fun e => by omega)
                  have z1 := cell_at hc2 (i := 3) rfl
                  have HC2 := Lib.hid hc2
                  have HP2 := Lib.hid hp2
                  have HG2 := Lib.hid (HG13.out.trans hg2 (fun j _ e => Or.inl e))
                  have HO2 := Lib.hid (HO13.out.chg hg2 (fun k hk e => by have := (HO13.out.lt k hk).1; omega))
                  have ha2 := HA13.out.chg hg2 (fun k hk e => by have := (HA13.out.lt k hk).1; omega)
                  have hszv := HG2.out.size
                  have HA2 := Lib.hid (ha2.chg (Chg.alloc0 V2 (.cells #[.int .i64 how, .int .i64 t7.n] 3) (fun _ => False)) (fun _ _ h => h.elim))
                  clear hp2 hg2 hc2 ha2 HC13 HG13 HO13 HA13 x1 hnm2
                  refine hK _ _ z1 ?_
                  clear hK K
                  refine lex_step rfl (fun K hK => ?_)
                  go_wp2_with fail
                  refine hK _ _ z1 ?_
                  clear hK K
                  refine lex_step rfl (fun K hK => ?_)
                  go_wp2_with fail
                  have z2 := cell_kept (below_alloc1 V2 (.cells #[.int .i64 how, .int .i64 t7.n] 3)) z1
                  refine hK _ _ z2 ?_
                  clear hK K
                  refine lex_step rfl (fun K hK => ?_)
                  refine wp_append_lies _ _ _ 41 rfl w.heap.size 3 i0 _ 1 8 Tryz.underlying41 hi hz0 hz1 hz2 rfl (by decide) (.slice (some ⟨kb, 0, none⟩) args3.length c3) args3.length (args3.map (Value.int .i64)) rfl HA2.out ⟨_, 0, none⟩ 2 2 [.int .i64 how, .int .i64 t7.n] rfl rfl (World.news_of_block (cs := #[.int .i64 how, .int .i64 t7.n]) (t := 3) (fr := (0, 0)) (heap_alloc_new V2 _)) (by simp [Value.oneCell']) (by decide) (by simp only [maxLen]; omega) (by omega) (by simp; omega) (V2.heap.size + 1) (by simp) ?_
                  intro ka cap3 V3 hown hgrow hat hlt
                  have hF3 : Chg (fun k => kb = k) V2 V3 := (Chg.alloc0 V2 _ _).trans ((chg_of_grown hgrow).mono (fun j _ h => by simpa [Value.ownBlock] using h)) (fun _ _ h => h)
                  have hc3 : ConAt gc V3 kind (.slice SB scope'.length Sd) vr (.slice (some ⟨kb, 0, none⟩) args3.length c3) := hF3.heap HC2.out (fun e => by omega)
                  have y1 := cell_at hc3 (i := 3) rfl
                  have yf := Lib.frozen_of_heap hc3 3
                  have hka : w.heap.size ≤ ka := by
                    rcases hat with h | h
                    · have h3 : kb = ka := by simpa [Value.ownBlock] using h
                      omega
                    · omega
                  have HOW := Lib.hid (OwnI.snoc (ys := [how, t7.n]) hown (by simp))
                  have HF3 := Lib.hid hF3
                  have HC3 := Lib.hid hc3
                  clear hown hgrow hat hF3 hc3 z1 z2
                  refine hK _ _ y1 ?_
                  clear hK K
                  refine lex_list _ _ _ _ _ rfl (by kernel_rfl) ?_
                  go_wp2
                  go_end0
                  have hF4 : Chg (fun k => kb = k ∨ k = gc) V2 (V3.setCell ⟨gc, 3, none⟩ (.slice (some ⟨ka, 0, none⟩) (args3.length + 2) cap3)) := (HF3.out.mono (fun _ _ h => Or.inl h)).trans (chg_setCell V3 gc 3 _) (fun _ _ h => Or.inr h)
                  refine ⟨?_, HG2.out.trans hF4 (fun j hj e => by
                    rcases e with e | e
                    · omega
                    · exact Or.inr e)⟩
                  rw [HR2.out]
                  refine ⟨.slice SB scope'.length Sd, .slice (some ⟨ka, 0, none⟩) (args3.length + 2) cap3, rfl, ?_, ?_, ?_, hl6, by simp; omega, ?_, HT8.out⟩
                  · have := HC3.out
                    unfold ConAt at this ⊢; simp [World.setCell, Array.getElem?_modify, this]
                  · exact HO2.out.chg hF4 (fun k hk e => by
                      rcases e with e | e
                      · exact HAP8.out k hk (by simp [Value.ownBlock, e])
                      · have := (HO2.out.lt k hk).1; omega)
                  · exact HOW.out.chg (chg_setCell V3 gc 3 _) (fun k hk e => by
                      have h3 : ka = k := by simpa [Value.ownBlock] using hk
                      omega)
                  · exact HP2.out.chg hF4 (fun k hk e => by omega)
              · have HR2 : Hid (out = .error (t6.at_, 3)) := Lib.hid (by rw [HR.out]; exact linTail_word HSQ.out (by rw [HH.out]; exact hgood))
                have hh0b : t6.kind = 1 → decide (0 ≤ how) = false := fun h => by simp; omega
                by_cases hk1 : t6.kind = 1
                · have hk1b : (t6.kind == 1) = true := by simpa using hk1
                  have hhb := hh0b hk1
                  clear hk1 hgood hh0b
                  go_wp2_with (go_at_call 71; refine (must_no _ _ _ _ _ _ _ (by first | rfl | exact hhb)).mono ?_; rintro e W13 ⟨rfl, hb13⟩; refine ⟨rfl, ?_⟩; rw [HR2.out]; exact ⟨rfl, HQ4.out.thenBelow hb13⟩)
                · have hk1b : (t6.kind == 1) = false := by simpa using hk1
                  clear hk1 hgood hh0b
                  go_wp2_with (go_at_call 71; refine (must_no _ _ _ _ _ _ _ (by first | rfl | exact hhb)).mono ?_; rintro e W13 ⟨rfl, hb13⟩; refine ⟨rfl, ?_⟩; rw [HR2.out]; exact ⟨rfl, HQ4.out.thenBelow hb13⟩)
end Go.Proofs.YtoahaigfjfeopaaGreatDoor
