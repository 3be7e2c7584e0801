/- Texts joined: Wag Wah Wai Waj Wak Wi Wj Wk Wl Wd We. -/
import Derived.Test.YtgpgmmkkmoecmaaGreatDoorPpc
import Derived.Defers
import Derived.Recover
import Derived.Test.YtgpgmmkkmoecmaaGreatDoorPpa
import Derived.Deep.DeepMust
/- inst.parser: statement. -/
namespace Go.Proofs.YtgpgmmkkmoecmaaGreatDoor
open Go.RowKit
attribute [local irreducible] wpStill wpLex Calls

theorem PAll.below {g : Nat} {w w' : World} {ts : List Tok} {x : Ins} (h : PAll g w ts x) (hb : Below w.heap.size w w') : PAll g w' ts x := by
  obtain ⟨dv, hv, sv, ok, hp, hst, hT⟩ := h
  exact ⟨dv, hv, sv, ok, hp.chg (chg_of_below hb (fun _ => False)) (fun _ _ h => h), (hst.chg (chg_of_below hb (fun _ => False)) (fun _ h => h.elim)).later hb.size, hT⟩
theorem PAll.toks {g : Nat} {w : World} {ts : List Tok} {x : Ins} (h : PAll g w ts x) : Toks ts := by
  obtain ⟨_, _, _, _, _, _, hT⟩ := h; exact hT
/-- The tables of words. -/
structure Tabs (w : World) : Prop where
  words : ∃ t fr, w.heap[0]? = some (.cells (wordsT.map fun l => Value.string ⟨l.toArray⟩).toArray t fr)
  hows : ∃ t fr, w.heap[1]? = some (.cells (howsT.map fun l => Value.string ⟨l.toArray⟩).toArray t fr)
theorem Tabs.below {w w' : World} {B : Nat} (h : Tabs w) (hb : Below B w w') (h8 : 8 ≤ B) : Tabs w' := by
  obtain ⟨t, fr, h1⟩ := h.words
  obtain ⟨t', fr', h2⟩ := h.hows
  exact ⟨⟨t, fr, (hb.block _ (by omega)).trans h1⟩, ⟨t', fr', (hb.block _ (by omega)).trans h2⟩⟩
def StmtOut (g : Nat) (w' : World) (e : Ending) (y : Ins) (r : List Tok) : Prop := e = .returned (.tuple #[]) ∧ PAll g w' r y

section
variable {x : Ins} {t : Tok} {r r' r2 : List Tok} {e : Int × Int} {u : Unit}
theorem stmtQ_bad (h : ¬ (t.kind = 1 ∧ (0 < wordFrom t.text 0 wordsT ∨ t.text = varT ∨ t.text = softT))) : stmtQ x (t :: r) = .error (t.at_, 3) := by
  simp only [stmtQ, nextQ]; exact if_pos h
theorem stmtQ_var (hk : t.kind = 1) (ht : t.text = varT) :
    (40 ≤ x.doms.length → stmtQ x (t :: r) = .error (t.at_, 7)) ∧ (¬ 40 ≤ x.doms.length → (domQ r [] = .error e → stmtQ x (t :: r) = .error e) ∧
      ∀ d, domQ r [] = .ok (d, r') → (signQ [59] r' = .error e → stmtQ x (t :: r) = .error e) ∧ (signQ [59] r' = .ok (u, r2) → stmtQ x (t :: r) = .ok ({ x with doms := x.doms ++ [d] }, r2))) := by
  have h4 : ¬ t.kind = 4 := by omega
  have hg : ¬ ¬ (t.kind = 1 ∧ (0 < wordFrom t.text 0 wordsT ∨ t.text = varT ∨ t.text = softT)) := fun h => h ⟨hk, .inr (.inl ht)⟩
  refine ⟨fun h => ?_, fun h => ⟨fun hd => ?_, fun d hd => ⟨fun hs => ?_, fun hs => ?_⟩⟩⟩ <;> simp only [stmtQ, nextQ, if_neg h4, if_neg hg, if_pos ht]
  · simp only [if_pos h]
  · simp only [if_neg h, hd]
  · simp only [if_neg h, hd, hs]
  · simp only [if_neg h, hd, hs]
theorem stmtQ_soft (hk : t.kind = 1) (ht : t.text = softT) :
    (200 ≤ x.soft.length → stmtQ x (t :: r) = .error (t.at_, 7)) ∧ (¬ 200 ≤ x.soft.length → (softQ x.doms r = .error e → stmtQ x (t :: r) = .error e) ∧
      ∀ d, softQ x.doms r = .ok (d, r') → (signQ [59] r' = .error e → stmtQ x (t :: r) = .error e) ∧ (signQ [59] r' = .ok (u, r2) → stmtQ x (t :: r) = .ok ({ x with soft := x.soft ++ [d] }, r2))) := by
  have h4 : ¬ t.kind = 4 := by omega
  have hnv : ¬ t.text = varT := by rw [ht]; decide
  have hg : ¬ ¬ (t.kind = 1 ∧ (0 < wordFrom t.text 0 wordsT ∨ t.text = varT ∨ t.text = softT)) := fun h => h ⟨hk, .inr (.inr ht)⟩
  refine ⟨fun h => ?_, fun h => ⟨fun hd => ?_, fun d hd => ⟨fun hs => ?_, fun hs => ?_⟩⟩⟩ <;> simp only [stmtQ, nextQ, if_neg h4, if_neg hg, if_neg hnv, if_pos ht]
  · simp only [if_pos h]
  · simp only [if_neg h, hd]
  · simp only [if_neg h, hd, hs]
  · simp only [if_neg h, hd, hs]
theorem stmtQ_hard {kw : Int} (hkw : kw = wordFrom t.text 0 wordsT) (hk : t.kind = 1) (hw : 0 < kw) (hnv : ¬ t.text = varT) (hns : ¬ t.text = softT) :
    (200 ≤ x.hard.length → stmtQ x (t :: r) = .error (t.at_, 7)) ∧ (¬ 200 ≤ x.hard.length → (hardQ x.doms kw r = .error e → stmtQ x (t :: r) = .error e) ∧
      ∀ d, hardQ x.doms kw r = .ok (d, r') → (signQ [59] r' = .error e → stmtQ x (t :: r) = .error e) ∧ (signQ [59] r' = .ok (u, r2) → stmtQ x (t :: r) = .ok ({ x with hard := x.hard ++ [d] }, r2))) := by
  subst hkw
  have h4 : ¬ t.kind = 4 := by omega
  have hg : ¬ ¬ (t.kind = 1 ∧ (0 < wordFrom t.text 0 wordsT ∨ t.text = varT ∨ t.text = softT)) := fun h => h ⟨hk, .inl hw⟩
  refine ⟨fun h => ?_, fun h => ⟨fun hd => ?_, fun d hd => ⟨fun hs => ?_, fun hs => ?_⟩⟩⟩ <;> simp only [stmtQ, nextQ, if_neg h4, if_neg hg, if_neg hnv, if_neg hns]
  · simp only [if_pos h]
  · simp only [if_neg h, hd]
  · simp only [if_neg h, hd, hs]
  · simp only [if_neg h, hd, hs]
end

set_option maxRecDepth 100000 in
set_option maxHeartbeats 4000000 in
theorem statement_p (g : Nat) (w : World) (ts : List Tok) (x : Ins) (h : PAll g w ts x) (hx1 : x.doms.length ≤ 40) (hx2 : x.hard.length ≤ 200) (hx3 : x.soft.length ≤ 200) (htl : ts.length ≤ 150000) (hE : Tabs w) (h8 : 8 ≤ g) :
    Calls Tryz.prog 36 #[.pointer (some ⟨g, 0, none⟩)] w fun e w' => Out (stmtQ x ts) (StmtOut g w' e) e ∧ Below g w w' := by
  obtain ⟨t, r, rfl⟩ := h.toks.cons
  obtain ⟨dv, hv, sv, ok, hp, hst, hT⟩ := h
  have hgw := hp.lt
  have hnx := Lib.hid (next_any g w t r dv hv sv hp)
  have HST := Lib.hid hst
  have HT := Lib.hid hT
  have HE := Lib.hid hE
  have HTK : Hid (tokC t = [.int .i64 t.kind, .string ⟨t.text.toArray⟩, .int .i64 t.n, .int .i64 t.at_]) := Lib.hid rfl
  clear hp hst hT hE
  go_enter Tryz.func36, Tryz.ntmps36
  go_wp2_with (go_at_call 65; refine hnx.out.mono ?_; rintro e w1 ⟨rfl, hp1, hg1⟩; (have HP1 := Lib.hid hp1); (have HG1 := Lib.hid (chg_g hg1 (fun k => k = g) rfl)); clear hp1 hg1; rw [HTK.out])
  have hX := Lib.hid (show (w1.alloc (tokO t ⟨t.text.toArray⟩)).drew.heap[w1.heap.size]? = some (tokO t ⟨t.text.toArray⟩) from heap_alloc_new w1 _)
  have hF2 : Chg (fun k => k = g) w (w1.alloc (tokO t ⟨t.text.toArray⟩)).drew := (HG1.out.alloc (tokO t ⟨t.text.toArray⟩)).drew
  have hP2 := (HP1.out.alloc (tokO t ⟨t.text.toArray⟩)).drew
  have hS2 := (HST.out.chg hF2 (fun k hk => by omega)).later hF2.size
  have hE2 := HE.out.below (hF2.below (B := g) (fun k hk e => by omega) (by omega)) h8
  obtain ⟨tw, fw, hw⟩ := hE2.words
  have HHW := Lib.hid hw
  have HF2 := Lib.hid (hF2.below (B := g) (fun k hk e => by omega) (by omega))
  have HP2 := Lib.hid hP2
  have HS2 := Lib.hid hS2
  have HE2 := Lib.hid hE2
  clear hF2 hP2 hS2 hE2 hw HP1 HG1 HST HE hnx
  refine wp_region_still_lit (by kernel_rfl) (by kernel_rfl) ?_
  change wpStill _ _ (World.drew (w1.alloc (tokO t ⟨t.text.toArray⟩))) (fun a' => Exit.then _ _ Exit.normal a' (World.drew (w1.alloc (tokO t ⟨t.text.toArray⟩)))) _ _
  generalize World.drew (w1.alloc (tokO t ⟨t.text.toArray⟩)) = W at *
  generalize w1.heap.size = k1 at *
  have HIX := Lib.hid (words_index t.text wordsT 0 W HHW.out (by decide) 7)
  have HVT : Hid (decide (t.text = varT) = ((ByteArray.mk t.text.toArray).toList == [118, 97, 114])) := Lib.hid (by have := bytes_eq t.text varT; rw [← this, ByteArray.toList_eq, ByteArray.toList_eq]; rfl)
  have HSF : Hid (decide (t.text = softT) = ((ByteArray.mk t.text.toArray).toList == [115, 111, 102, 116])) := Lib.hid (by have := bytes_eq t.text softT; rw [← this, ByteArray.toList_eq, ByteArray.toList_eq]; rfl)
  generalize (ByteArray.mk t.text.toArray) = tb at *
  have d0 := cell_at hX.out (i := 0) rfl
  have d1 := cell_at hX.out (i := 1) rfl
  have d2 := cell_at hX.out (i := 2) rfl
  have d3 := cell_at hX.out (i := 3) rfl
  repeat (first | (refine still_plain rfl (fun K hK => ?_); go_simp; refine hK _ ?_; clear hK K) | (refine still_off _ _ _ _ _ rfl rfl rfl rfl rfl (fun K hK => ?_); go_simp; refine hK _ ?_; clear hK K) | (refine still_on _ _ _ _ rfl rfl rfl rfl (fun K hK => ?_); go_simp; refine hK _ ?_; clear hK K) | (refine still_dead _ _ _ _ rfl rfl rfl rfl (fun K hK => ?_); go_simp; refine hK _ ?_; clear hK K))
  ((first | refine still_plain rfl (fun K hK => ?_) | refine still_on _ _ _ _ rfl rfl rfl rfl (fun K hK => ?_)); go_simp; refine ⟨_, HIX.out, hK _ ?_⟩; clear hK K)
  repeat (first | (refine still_plain rfl (fun K hK => ?_); go_simp; refine hK _ ?_; clear hK K) | (refine still_off _ _ _ _ _ rfl rfl rfl rfl rfl (fun K hK => ?_); go_simp; refine hK _ ?_; clear hK K) | (refine still_on _ _ _ _ rfl rfl rfl rfl (fun K hK => ?_); go_simp; refine hK _ ?_; clear hK K) | (refine still_dead _ _ _ _ rfl rfl rfl rfl (fun K hK => ?_); go_simp; refine hK _ ?_; clear hK K))
  refine wpStill_nil ?_
  obtain ⟨kw, hkw⟩ : ∃ kw, kw = wordFrom t.text 0 wordsT := ⟨_, rfl⟩
  rw [← hkw]
  have HKW := Lib.hid hkw
  clear hkw HIX
  by_cases hk : t.kind = 1
  · have hkb : (t.kind == 1) = true := by simpa using hk
    by_cases hv : t.text = varT
    · have hvb : (tb.toList == [118, 97, 114]) = true := by rw [← HVT.out]; simpa using hv
      have hKV : ¬ 0 < kw := by rw [HKW.out, hv]; decide
      have hwb : decide (0 < kw) = false := by simpa using hKV
      have HV := Lib.hid hv
      have HK := Lib.hid hk
      clear hv HSF HVT
      obtain ⟨VA, Vc, hvv, _, _, _⟩ := HS2.out.D.sl (by omega)
      subst hvv
      have hT2 := HT.out.tail (by omega)
      have hpp := HP2.out
      rw [if_neg (by omega)] at hpp
      have HP3 := Lib.hid hpp
      have HT2 := Lib.hid hT2
      have HLQ := Lib.hid (fun (r' r2 : List Tok) (e : Int × Int) => stmtQ_var HK.out HV.out (x := x) (r := r) (r' := r') (r2 := r2) (e := e) (u := ()))
      clear hT2 hpp HT HP2 hk hKV
      go_wp2_with (go_at_call 67; refine (must_yes _ _ _ _ _ _ _ (by first | rfl | assumption)).mono ?_; rintro e W3 ⟨rfl, hb3⟩; (have HB3 := Lib.hid (hb3.trans (Below.drew (Below.refl W3.heap.size W3) |>.mono hb3.size))); (have HX3 := Lib.hid (block_kept hb3 hX.out)); (have e0 := cell_at HX3.out (i := 0) rfl); (have e1 := cell_at HX3.out (i := 1) rfl); (have e2 := cell_at HX3.out (i := 2) rfl); (have e3 := cell_at HX3.out (i := 3) rfl); clear hb3 d0 d1 d2 d3)
      have hX4 : W3.drew.heap[k1]? = _ := HX3.out
      have hP4 := HP3.out.grown (below_grown0 HB3.out none) (by simp)
      have hS4 := (HS2.out.chg (chg_of_below HB3.out (fun _ => False)) (fun _ h => h.elim)).later HB3.out.size
      have hE4 := HE2.out.below (HB3.out.mono (by have := HF2.out.size; omega) : Below g W W3.drew) h8
      have hF4 := HF2.out.trans (HB3.out.mono (by have := HF2.out.size; omega) : Below g W W3.drew)
      obtain ⟨A4, n4, c4, hb4, _⟩ := hP4
      have g1 := cell_at hb4 (i := 1) rfl
      have HP4 := Lib.hid (show PB g W3.drew r _ _ _ from ⟨A4, n4, c4, hb4, by assumption⟩)
      have HS4 := Lib.hid hS4
      have HE4 := Lib.hid hE4
      have HF4 := Lib.hid hF4
      have HX4 := Lib.hid hX4
      have d0 := cell_at hX4 (i := 0) rfl
      have d1 := cell_at hX4 (i := 1) rfl
      have d2 := cell_at hX4 (i := 2) rfl
      have d3 := cell_at hX4 (i := 3) rfl
      clear hb4 hX4 hS4 hE4 hF4 HB3 HX3 HP3 HS2 HE2 HF2 hX HHW e0 e1 e2 e3
      refine wp_region_still_tail 8 (by kernel_rfl) (by kernel_rfl) ?_
      change wpStill _ _ (World.drew W3) (fun a' => wpList _ _ _ _ a' (World.drew W3)) _ _
      generalize World.drew W3 = V at *
      simp only [List.take_succ_cons, List.take_zero, List.drop_succ_cons, List.drop_zero]
      repeat (first | (refine still_plain rfl (fun K hK => ?_); go_simp; refine hK _ ?_; clear hK K) | (refine still_off _ _ _ _ _ rfl rfl rfl rfl rfl (fun K hK => ?_); go_simp; refine hK _ ?_; clear hK K) | (refine still_on _ _ _ _ rfl rfl rfl rfl (fun K hK => ?_); go_simp; refine hK _ ?_; clear hK K) | (refine still_dead _ _ _ _ rfl rfl rfl rfl (fun K hK => ?_); go_simp; refine hK _ ?_; clear hK K))
      refine wpStill_nil ?_
      have hgv : g < V.heap.size := HP4.out.lt
      by_cases hmany : 40 ≤ x.doms.length
      · have HR : Hid (stmtQ x (t :: r) = .error (t.at_, 7)) := Lib.hid ((HLQ.out [] [] (0, 0)).1 hmany)
        have hbb : decide (x.doms.length < 40) = false := by simpa using hmany
        go_wp2_with (go_at_call 67; refine (must_no _ _ _ _ _ _ _ (by first | rfl | (simp; omega))).mono ?_; rintro e W5 ⟨rfl, hb5⟩; refine ⟨rfl, ?_⟩; rw [HR.out]; exact ⟨rfl, HF4.out.trans (hb5.mono (by omega))⟩)
      · have hbb : decide (x.doms.length < 40) = true := by simpa using hmany
        have HLQ2 := Lib.hid (fun r' r2 e => (HLQ.out r' r2 e).2 hmany)
        have hm2 : x.doms.length < 40 := by omega
        clear HLQ hmany
        go_wp2_with (go_at_call 67; refine (must_yes _ _ _ _ _ _ _ (by first | rfl | (simp; omega))).mono ?_; rintro e W5 ⟨rfl, hb5⟩; (have HPA := Lib.hid (PAll.below ⟨_, _, _, _, HP4.out, HS4.out, HT2.out⟩ hb5 : PAll g W5 r x)); (have HE5 := Lib.hid (HE4.out.below (hb5.mono (by omega) : Below g V W5) h8)); (have HF5 := Lib.hid (HF4.out.trans (hb5.mono (by omega)))); clear hb5 d0 d1 d2 d3)
        have hcc := Lib.hid (domain_p g W5 r x HPA.out hx1)
        rcases hq : domQ r [] with ⟨p, y⟩ | ⟨d, r5⟩
        · have HR : Hid (stmtQ x (t :: r) = .error (p, y)) := Lib.hid ((HLQ2.out [] [] (p, y)).1 hq)
          rw [hq] at hcc
          clear hq
          refine hcc.out.mono ?_
          rintro e w' ⟨he, hg⟩
          obtain rfl : e = wrongs p y := he
          refine ⟨rfl, ?_⟩
          rw [HR.out]
          exact ⟨rfl, HF5.out.trans hg⟩
        · have HLQ3 := Lib.hid (fun r2 e => (HLQ2.out r5 r2 e).2 d hq)
          rw [hq] at hcc
          clear hq
          refine hcc.out.mono ?_
          rintro e W6 ⟨⟨rfl, hp6⟩, hg6⟩
          obtain ⟨t6, r6, rfl⟩ := hp6.toks.cons
          obtain ⟨dv6, hv6, sv6, ok6, hp6, hst6, hT6⟩ := hp6
          have hsg := Lib.hid (sign_q g W6 t6 r6 _ _ _ [59] hp6 hT6)
          have HST6 := Lib.hid hst6
          have hgw6 := hp6.lt
          have HF6 := Lib.hid (HF5.out.trans hg6)
          clear hp6 hst6 hT6 hg6 hcc
          rcases hq : signQ [59] (t6 :: r6) with ⟨p, y⟩ | ⟨u0, r7⟩
          · have HR : Hid (stmtQ x (t :: r) = .error (p, y)) := Lib.hid ((HLQ3.out [] (p, y)).1 hq)
            rw [hq] at hsg
            clear hq
            go_wp2_with (go_at_call 71; refine hsg.out.mono ?_; rintro e w' ⟨he, hg⟩; obtain rfl : e = wrongs p y := he; refine ⟨rfl, ?_⟩; rw [HR.out]; exact ⟨rfl, HF6.out.trans (hg.below (fun k hk e => by omega) (by omega))⟩)
          · have HR := Lib.hid ((HLQ3.out r7 (0, 0)).2 hq)
            rw [hq] at hsg
            clear hq
            go_wp2_with (go_at_call 71; refine hsg.out.mono ?_; rintro e w' ⟨⟨rfl, hp7, hT7⟩, hg⟩; (have HPF := Lib.hid (show PAll g w' r7 _ from ⟨_, _, _, _, hp7, (HST6.out.chg hg (fun k hk => by omega)).later hg.size, hT7⟩)); (have HFF := Lib.hid (HF6.out.trans (hg.below (B := g) (fun k hk e => by omega) (by omega)))); clear hp7 hT7 hg)
            go_end0
            rw [HR.out]
            exact ⟨⟨rfl, HPF.out⟩, HFF.out⟩
    · by_cases hs : t.text = softT
      · have hvb : (tb.toList == [118, 97, 114]) = false := by rw [← HVT.out]; simpa using hv
        have hsb : (tb.toList == [115, 111, 102, 116]) = true := by rw [← HSF.out]; simpa using hs
        have hKV : ¬ 0 < kw := by rw [HKW.out, hs]; decide
        have hwb : decide (0 < kw) = false := by simpa using hKV
        have HV := Lib.hid hs
        have HK := Lib.hid hk
        clear hv hs HSF HVT
        obtain ⟨VA, Vc, hvv, _, _, _⟩ := HS2.out.S.sl (by omega)
        subst hvv
        have hT2 := HT.out.tail (by omega)
        have hpp := HP2.out
        rw [if_neg (by omega)] at hpp
        have HP3 := Lib.hid hpp
        have HT2 := Lib.hid hT2
        have HLQ := Lib.hid (fun (r' r2 : List Tok) (e : Int × Int) => stmtQ_soft HK.out HV.out (x := x) (r := r) (r' := r') (r2 := r2) (e := e) (u := ()))
        clear hT2 hpp HT HP2 hk hKV
        go_wp2_with (go_at_call 67; refine (must_yes _ _ _ _ _ _ _ (by first | rfl | assumption)).mono ?_; rintro e W3 ⟨rfl, hb3⟩; (have HB3 := Lib.hid (hb3.trans (Below.drew (Below.refl W3.heap.size W3) |>.mono hb3.size))); (have HX3 := Lib.hid (block_kept hb3 hX.out)); (have e0 := cell_at HX3.out (i := 0) rfl); (have e1 := cell_at HX3.out (i := 1) rfl); (have e2 := cell_at HX3.out (i := 2) rfl); (have e3 := cell_at HX3.out (i := 3) rfl); clear hb3 d0 d1 d2 d3)
        have hX4 : W3.drew.heap[k1]? = _ := HX3.out
        have hP4 := HP3.out.grown (below_grown0 HB3.out none) (by simp)
        have hS4 := (HS2.out.chg (chg_of_below HB3.out (fun _ => False)) (fun _ h => h.elim)).later HB3.out.size
        have hE4 := HE2.out.below (HB3.out.mono (by have := HF2.out.size; omega) : Below g W W3.drew) h8
        have hF4 := HF2.out.trans (HB3.out.mono (by have := HF2.out.size; omega) : Below g W W3.drew)
        obtain ⟨A4, n4, c4, hb4, _⟩ := hP4
        have g1 := cell_at hb4 (i := 3) rfl
        have HP4 := Lib.hid (show PB g W3.drew r _ _ _ from ⟨A4, n4, c4, hb4, by assumption⟩)
        have HS4 := Lib.hid hS4
        have HE4 := Lib.hid hE4
        have HF4 := Lib.hid hF4
        have HX4 := Lib.hid hX4
        have d0 := cell_at hX4 (i := 0) rfl
        have d1 := cell_at hX4 (i := 1) rfl
        have d2 := cell_at hX4 (i := 2) rfl
        have d3 := cell_at hX4 (i := 3) rfl
        clear hb4 hX4 hS4 hE4 hF4 HB3 HX3 HP3 HS2 HE2 HF2 hX HHW e0 e1 e2 e3
        refine wp_region_still_tail 8 (by kernel_rfl) (by kernel_rfl) ?_
        change wpStill _ _ (World.drew W3) (fun a' => wpList _ _ _ _ a' (World.drew W3)) _ _
        generalize World.drew W3 = V at *
        simp only [List.take_succ_cons, List.take_zero, List.drop_succ_cons, List.drop_zero]
        repeat (first | (refine still_plain rfl (fun K hK => ?_); go_simp; refine hK _ ?_; clear hK K) | (refine still_off _ _ _ _ _ rfl rfl rfl rfl rfl (fun K hK => ?_); go_simp; refine hK _ ?_; clear hK K) | (refine still_on _ _ _ _ rfl rfl rfl rfl (fun K hK => ?_); go_simp; refine hK _ ?_; clear hK K) | (refine still_dead _ _ _ _ rfl rfl rfl rfl (fun K hK => ?_); go_simp; refine hK _ ?_; clear hK K))
        refine wpStill_nil ?_
        have hgv : g < V.heap.size := HP4.out.lt
        by_cases hmany : 200 ≤ x.soft.length
        · have HR : Hid (stmtQ x (t :: r) = .error (t.at_, 7)) := Lib.hid ((HLQ.out [] [] (0, 0)).1 hmany)
          have hbb : decide (x.soft.length < 200) = false := by simpa using hmany
          go_wp2_with (go_at_call 67; refine (must_no _ _ _ _ _ _ _ (by first | rfl | (simp; omega))).mono ?_; rintro e W5 ⟨rfl, hb5⟩; refine ⟨rfl, ?_⟩; rw [HR.out]; exact ⟨rfl, HF4.out.trans (hb5.mono (by omega))⟩)
        · have hbb : decide (x.soft.length < 200) = true := by simpa using hmany
          have HLQ2 := Lib.hid (fun r' r2 e => (HLQ.out r' r2 e).2 hmany)
          have hm2 : x.soft.length < 200 := by omega
          clear HLQ hmany
          go_wp2_with (go_at_call 67; refine (must_yes _ _ _ _ _ _ _ (by first | rfl | (simp; omega))).mono ?_; rintro e W5 ⟨rfl, hb5⟩; (have HPA := Lib.hid (PAll.below ⟨_, _, _, _, HP4.out, HS4.out, HT2.out⟩ hb5 : PAll g W5 r x)); (have HE5 := Lib.hid (HE4.out.below (hb5.mono (by omega) : Below g V W5) h8)); (have HF5 := Lib.hid (HF4.out.trans (hb5.mono (by omega)))); clear hb5 d0 d1 d2 d3)
          have hcc := Lib.hid (soft_p g W5 r x HPA.out hx3 hx1 (by simp at htl; omega))
          rcases hq : softQ x.doms r with ⟨p, y⟩ | ⟨d, r5⟩
          · have HR : Hid (stmtQ x (t :: r) = .error (p, y)) := Lib.hid ((HLQ2.out [] [] (p, y)).1 hq)
            rw [hq] at hcc
            clear hq
            refine hcc.out.mono ?_
            rintro e w' ⟨he, hg⟩
            obtain rfl : e = wrongs p y := he
            refine ⟨rfl, ?_⟩
            rw [HR.out]
            exact ⟨rfl, HF5.out.trans hg⟩
          · have HLQ3 := Lib.hid (fun r2 e => (HLQ2.out r5 r2 e).2 d hq)
            rw [hq] at hcc
            clear hq
            refine hcc.out.mono ?_
            rintro e W6 ⟨⟨rfl, hp6⟩, hg6⟩
            obtain ⟨t6, r6, rfl⟩ := hp6.toks.cons
            obtain ⟨dv6, hv6, sv6, ok6, hp6, hst6, hT6⟩ := hp6
            have hsg := Lib.hid (sign_q g W6 t6 r6 _ _ _ [59] hp6 hT6)
            have HST6 := Lib.hid hst6
            have hgw6 := hp6.lt
            have HF6 := Lib.hid (HF5.out.trans hg6)
            clear hp6 hst6 hT6 hg6 hcc
            rcases hq : signQ [59] (t6 :: r6) with ⟨p, y⟩ | ⟨u0, r7⟩
            · have HR : Hid (stmtQ x (t :: r) = .error (p, y)) := Lib.hid ((HLQ3.out [] (p, y)).1 hq)
              rw [hq] at hsg
              clear hq
              go_wp2_with (go_at_call 71; refine hsg.out.mono ?_; rintro e w' ⟨he, hg⟩; obtain rfl : e = wrongs p y := he; refine ⟨rfl, ?_⟩; rw [HR.out]; exact ⟨rfl, HF6.out.trans (hg.below (fun k hk e => by omega) (by omega))⟩)
            · have HR := Lib.hid ((HLQ3.out r7 (0, 0)).2 hq)
              rw [hq] at hsg
              clear hq
              go_wp2_with (go_at_call 71; refine hsg.out.mono ?_; rintro e w' ⟨⟨rfl, hp7, hT7⟩, hg⟩; (have HPF := Lib.hid (show PAll g w' r7 _ from ⟨_, _, _, _, hp7, (HST6.out.chg hg (fun k hk => by omega)).later hg.size, hT7⟩)); (have HFF := Lib.hid (HF6.out.trans (hg.below (B := g) (fun k hk e => by omega) (by omega)))); clear hp7 hT7 hg)
              go_end0
              rw [HR.out]
              exact ⟨⟨rfl, HPF.out⟩, HFF.out⟩
      · have hvb : (tb.toList == [118, 97, 114]) = false := by rw [← HVT.out]; simpa using hv
        have hsb : (tb.toList == [115, 111, 102, 116]) = false := by rw [← HSF.out]; simpa using hs
        have HV := Lib.hid hv
        have HS := Lib.hid hs
        by_cases hw : 0 < kw
        · have hwb : decide (0 < kw) = true := by simpa using hw
          have HW := Lib.hid hw
          have HK := Lib.hid hk
          have hKV := True.intro
          clear hv hs HSF HVT hw
          obtain ⟨VA, Vc, hvv, _, _, _⟩ := HS2.out.H.sl (by omega)
          subst hvv
          have hT2 := HT.out.tail (by omega)
          have hpp := HP2.out
          rw [if_neg (by omega)] at hpp
          have HP3 := Lib.hid hpp
          have HT2 := Lib.hid hT2
          have HLQ := Lib.hid (fun (r' r2 : List Tok) (e : Int × Int) => stmtQ_hard HKW.out HK.out HW.out HV.out HS.out (x := x) (r := r) (r' := r') (r2 := r2) (e := e) (u := ()))
          clear hT2 hpp HT HP2 hk hKV
          go_wp2_with (go_at_call 67; refine (must_yes _ _ _ _ _ _ _ (by first | rfl | assumption)).mono ?_; rintro e W3 ⟨rfl, hb3⟩; (have HB3 := Lib.hid (hb3.trans (Below.drew (Below.refl W3.heap.size W3) |>.mono hb3.size))); (have HX3 := Lib.hid (block_kept hb3 hX.out)); (have e0 := cell_at HX3.out (i := 0) rfl); (have e1 := cell_at HX3.out (i := 1) rfl); (have e2 := cell_at HX3.out (i := 2) rfl); (have e3 := cell_at HX3.out (i := 3) rfl); clear hb3 d0 d1 d2 d3)
          have hX4 : W3.drew.heap[k1]? = _ := HX3.out
          have hP4 := HP3.out.grown (below_grown0 HB3.out none) (by simp)
          have hS4 := (HS2.out.chg (chg_of_below HB3.out (fun _ => False)) (fun _ h => h.elim)).later HB3.out.size
          have hE4 := HE2.out.below (HB3.out.mono (by have := HF2.out.size; omega) : Below g W W3.drew) h8
          have hF4 := HF2.out.trans (HB3.out.mono (by have := HF2.out.size; omega) : Below g W W3.drew)
          obtain ⟨A4, n4, c4, hb4, _⟩ := hP4
          have g1 := cell_at hb4 (i := 2) rfl
          have HP4 := Lib.hid (show PB g W3.drew r _ _ _ from ⟨A4, n4, c4, hb4, by assumption⟩)
          have HS4 := Lib.hid hS4
          have HE4 := Lib.hid hE4
          have HF4 := Lib.hid hF4
          have HX4 := Lib.hid hX4
          have d0 := cell_at hX4 (i := 0) rfl
          have d1 := cell_at hX4 (i := 1) rfl
          have d2 := cell_at hX4 (i := 2) rfl
          have d3 := cell_at hX4 (i := 3) rfl
          clear hb4 hX4 hS4 hE4 hF4 HB3 HX3 HP3 HS2 HE2 HF2 hX HHW e0 e1 e2 e3
          refine wp_region_still_tail 8 (by kernel_rfl) (by kernel_rfl) ?_
          change wpStill _ _ (World.drew W3) (fun a' => wpList _ _ _ _ a' (World.drew W3)) _ _
          generalize World.drew W3 = V at *
          simp only [List.take_succ_cons, List.take_zero, List.drop_succ_cons, List.drop_zero]
          repeat (first | (refine still_plain rfl (fun K hK => ?_); go_simp; refine hK _ ?_; clear hK K) | (refine still_off _ _ _ _ _ rfl rfl rfl rfl rfl (fun K hK => ?_); go_simp; refine hK _ ?_; clear hK K) | (refine still_on _ _ _ _ rfl rfl rfl rfl (fun K hK => ?_); go_simp; refine hK _ ?_; clear hK K) | (refine still_dead _ _ _ _ rfl rfl rfl rfl (fun K hK => ?_); go_simp; refine hK _ ?_; clear hK K))
          refine wpStill_nil ?_
          have hgv : g < V.heap.size := HP4.out.lt
          by_cases hmany : 200 ≤ x.hard.length
          · have HR : Hid (stmtQ x (t :: r) = .error (t.at_, 7)) := Lib.hid ((HLQ.out [] [] (0, 0)).1 hmany)
            have hbb : decide (x.hard.length < 200) = false := by simpa using hmany
            go_wp2_with (go_at_call 67; refine (must_no _ _ _ _ _ _ _ (by first | rfl | (simp; omega))).mono ?_; rintro e W5 ⟨rfl, hb5⟩; refine ⟨rfl, ?_⟩; rw [HR.out]; exact ⟨rfl, HF4.out.trans (hb5.mono (by omega))⟩)
          · have hbb : decide (x.hard.length < 200) = true := by simpa using hmany
            have HLQ2 := Lib.hid (fun r' r2 e => (HLQ.out r' r2 e).2 hmany)
            have hm2 : x.hard.length < 200 := by omega
            clear HLQ hmany
            go_wp2_with (go_at_call 67; refine (must_yes _ _ _ _ _ _ _ (by first | rfl | (simp; omega))).mono ?_; rintro e W5 ⟨rfl, hb5⟩; (have HPA := Lib.hid (PAll.below ⟨_, _, _, _, HP4.out, HS4.out, HT2.out⟩ hb5 : PAll g W5 r x)); (have HE5 := Lib.hid (HE4.out.below (hb5.mono (by omega) : Below g V W5) h8)); (have HF5 := Lib.hid (HF4.out.trans (hb5.mono (by omega)))); clear hb5 d0 d1 d2 d3)
            have hcc := Lib.hid (hard_p g W5 r x kw HPA.out hx2 hx1 (by simp at htl; omega) HE5.out.hows h8)
            rcases hq : hardQ x.doms kw r with ⟨p, y⟩ | ⟨d, r5⟩
            · have HR : Hid (stmtQ x (t :: r) = .error (p, y)) := Lib.hid ((HLQ2.out [] [] (p, y)).1 hq)
              rw [hq] at hcc
              clear hq
              refine hcc.out.mono ?_
              rintro e w' ⟨he, hg⟩
              obtain rfl : e = wrongs p y := he
              refine ⟨rfl, ?_⟩
              rw [HR.out]
              exact ⟨rfl, HF5.out.trans hg⟩
            · have HLQ3 := Lib.hid (fun r2 e => (HLQ2.out r5 r2 e).2 d hq)
              rw [hq] at hcc
              clear hq
              refine hcc.out.mono ?_
              rintro e W6 ⟨⟨rfl, hp6⟩, hg6⟩
              obtain ⟨t6, r6, rfl⟩ := hp6.toks.cons
              obtain ⟨dv6, hv6, sv6, ok6, hp6, hst6, hT6⟩ := hp6
              have hsg := Lib.hid (sign_q g W6 t6 r6 _ _ _ [59] hp6 hT6)
              have HST6 := Lib.hid hst6
              have hgw6 := hp6.lt
              have HF6 := Lib.hid (HF5.out.trans hg6)
              clear hp6 hst6 hT6 hg6 hcc
              rcases hq : signQ [59] (t6 :: r6) with ⟨p, y⟩ | ⟨u0, r7⟩
              · have HR : Hid (stmtQ x (t :: r) = .error (p, y)) := Lib.hid ((HLQ3.out [] (p, y)).1 hq)
                rw [hq] at hsg
                clear hq
                go_wp2_with (go_at_call 71; refine hsg.out.mono ?_; rintro e w' ⟨he, hg⟩; obtain rfl : e = wrongs p y := he; refine ⟨rfl, ?_⟩; rw [HR.out]; exact ⟨rfl, HF6.out.trans (hg.below (fun k hk e => by omega) (by omega))⟩)
              · have HR := Lib.hid ((HLQ3.out r7 (0, 0)).2 hq)
                rw [hq] at hsg
                clear hq
                go_wp2_with (go_at_call 71; refine hsg.out.mono ?_; rintro e w' ⟨⟨rfl, hp7, hT7⟩, hg⟩; (have HPF := Lib.hid (show PAll g w' r7 _ from ⟨_, _, _, _, hp7, (HST6.out.chg hg (fun k hk => by omega)).later hg.size, hT7⟩)); (have HFF := Lib.hid (HF6.out.trans (hg.below (B := g) (fun k hk e => by omega) (by omega)))); clear hp7 hT7 hg)
                go_end0
                rw [HR.out]
                exact ⟨⟨rfl, HPF.out⟩, HFF.out⟩
        · have hwb : decide (0 < kw) = false := by simpa using hw
          have HR : Hid (stmtQ x (t :: r) = .error (t.at_, 3)) := Lib.hid (stmtQ_bad (fun h => by rcases h.2 with h | h | h; exact hw (HKW.out ▸ h); exact hv h; exact hs h))
          clear hw hv hs hk
          go_wp2_with (go_at_call 67; refine (must_no _ _ _ _ _ _ _ (by first | rfl | assumption)).mono ?_; rintro e W5 ⟨rfl, hb5⟩; refine ⟨rfl, ?_⟩; rw [HR.out]; exact ⟨rfl, HF2.out.trans (hb5.mono (by have := HF2.out.size; omega))⟩)
  · have hkb : (t.kind == 1) = false := by simpa using hk
    have HR : Hid (stmtQ x (t :: r) = .error (t.at_, 3)) := Lib.hid (stmtQ_bad (fun h => hk h.1))
    clear hk
    go_wp2_with (go_at_call 67; refine (must_no _ _ _ _ _ _ _ (by first | rfl | assumption)).mono ?_; rintro e W5 ⟨rfl, hb5⟩; refine ⟨rfl, ?_⟩; rw [HR.out]; exact ⟨rfl, HF2.out.trans (hb5.mono (by have := HF2.out.size; omega))⟩)
end Go.Proofs.YtgpgmmkkmoecmaaGreatDoor

/- inst.Parse's deferred closure: what recovers an error. -/
namespace Go.Proofs.YtgpgmmkkmoecmaaGreatDoor
open Go.RowKit
attribute [local irreducible] wpStill wpLex Calls

theorem wpS_of_wpK {P : Program} {c : Code} {Q : Exit → Act → List Frame → World → Prop} {a : Act} {cs : List Frame} {w : World} (h0 : ∀ c (a : Act) d v w, Q (.panic c) (a.put d v) cs w → Q (.panic c) a cs w)
    (h : ∀ Q' : Exit → Act → World → Prop, (∀ c (a : Act) d v w, Q' (.panic c) (a.put d v) w → Q' (.panic c) a w) → (∀ e a' w', Q e a' cs w' → Q' e a' w') → c.wp P Q' a w) : c.wpS P Q a cs w :=
  wpS_of_wp (h (fun e a' w' => Q e a' cs w') h0 fun _ _ _ h => h)
/-- Nothing to recover. -/
theorem parse1_idle (p q r : Value) (w : World) :
    CallsD Tryz.prog 35 #[p, q, r] .returning w fun e u' w' => e = .returned (.tuple #[]) ∧ u' = .returning ∧ w' = w := by
  have hnil : ∀ w : World, (binOp BinOp.eql 20 .nilIface .nilIface).run Tryz.prog w = .ok (.bool true) w := fun _ => by kernel_rfl
  refine callsD_of_wpS Tryz.func35 rfl fun c₀ cs hu => ?_
  apply wpS_seq
  apply wpS_region
  simp [wpOpsS, go_sem, recoverD, hu, Tryz.ntmps35, Exit.thenS]
  refine wpS_of_wpK (fun c a d v w h => by cases d <;> exact h) fun Q hQP hQ => ?_
  have HU := Lib.hid hu
  have HQ := Lib.hid hQ
  have HQP := Lib.hid hQP
  clear hu hQ hQP
  change Code.wp _ _ Q { tmps := #[p, q, r, undef, undef, undef, .nilIface, undef, undef, undef, undef, undef, undef, undef, undef, undef, undef], defers := [] } w
  go_wp2
  refine HQ.out _ _ _ ?_
  cases c₀
  have := HU.out
  simp_all [bodyPostS, results, Tryz.results35]
set_option maxRecDepth 100000 in
set_option maxHeartbeats 2000000 in
/-- An error of the parser: it is told. -/
theorem parse1_wrong (bx ba be : Nat) (at_ er : Int) (x0 x1 x2 : Value) (y z : Int) (older : List PanicEntry) (w : World) (hx : w.heap[bx]? = some (.cells #[x0, x1, x2] 30 (0, 0))) (ha : w.heap[ba]? = some (.cells #[.int .i64 y] 3 (0, 0))) (he : w.heap[be]? = some (.cells #[.int .i64 z] 23 (0, 0))) (hxa : bx ≠ ba) (hxe : bx ≠ be) (hae : ba ≠ be) :
    CallsD Tryz.prog 35 #[.pointer (some ⟨bx, 0, none⟩), .pointer (some ⟨ba, 0, none⟩), .pointer (some ⟨be, 0, none⟩)] (.panicking ({ v := .iface 77 (.agg #[.int .i64 at_, .int .i64 er]), recovered := false } :: older)) w fun e u' w' =>
      e = .returned (.tuple #[]) ∧ u' = .panicking ({ v := .iface 77 (.agg #[.int .i64 at_, .int .i64 er]), recovered := true } :: older) ∧ w'.heap[bx]? = some (.cells #[.slice none 0 0, .slice none 0 0, .slice none 0 0] 30 (0, 0)) ∧ w'.heap[ba]? = some (.cells #[.int .i64 at_] 3 (0, 0)) ∧
        w'.heap[be]? = some (.cells #[.int .i64 er] 23 (0, 0)) ∧ Chg (fun k => k = bx ∨ k = ba ∨ k = be) w w' := by
  have hnil : ∀ w : World, (binOp BinOp.eql 20 (.iface 77 (.agg #[.int .i64 at_, .int .i64 er])) .nilIface).run Tryz.prog w = .ok (.bool false) w := fun _ => by kernel_rfl
  have hta : ∀ w : World, (Instr.typeAssert (.iface 77 (.agg #[.int .i64 at_, .int .i64 er])) 20 77 true).run Tryz.prog w = .ok (.tuple #[.agg #[.int .i64 at_, .int .i64 er], .bool true]) w := fun _ => by kernel_rfl
  refine callsD_of_wpS Tryz.func35 rfl fun c₀ cs hu => ?_
  apply wpS_seq
  apply wpS_region
  simp [wpOpsS, go_sem, recoverD, hu, Tryz.ntmps35, Exit.thenS]
  refine wpS_of_wpK (fun c a d v w h => by cases d <;> exact h) fun Q hQP hQ => ?_
  have HU := Lib.hid hu
  have HQ := Lib.hid hQ
  have HQP := Lib.hid hQP
  clear hu hQ hQP
  change Code.wp _ _ Q { tmps := #[.pointer (some ⟨bx, 0, none⟩), .pointer (some ⟨ba, 0, none⟩), .pointer (some ⟨be, 0, none⟩), undef, undef, undef, .iface 77 (.agg #[.int .i64 at_, .int .i64 er]), undef, undef, undef, undef, undef, undef, undef, undef, undef, undef], defers := [] } w
  have hX := heap_alloc_new w (.cells #[.int .i64 at_, .int .i64 er] 77)
  have hx1 := block_kept (below_alloc1 w (.cells #[.int .i64 at_, .int .i64 er] 77)) hx
  have ha1 := block_kept (below_alloc1 w (.cells #[.int .i64 at_, .int .i64 er] 77)) ha
  have he1 := block_kept (below_alloc1 w (.cells #[.int .i64 at_, .int .i64 er] 77)) he
  have hlx := lt_of_block hx
  have hla := lt_of_block ha
  have hle := lt_of_block he
  have HX := Lib.hid hX
  have HX1 := Lib.hid hx1
  have HA1 := Lib.hid ha1
  have HE1 := Lib.hid he1
  clear hX hx1 ha1 he1 hx ha he
  go_wp2_with fail
  have HF : Hid (Chg (fun k => k = bx ∨ k = ba ∨ k = be) w (World.drew (w.alloc (.cells #[.int .i64 at_, .int .i64 er] 77)))) := Lib.hid (Chg.alloc0 w _ _).drew
  have hX : (World.drew (w.alloc (.cells #[.int .i64 at_, .int .i64 er] 77))).heap[w.heap.size]? = _ := HX.out
  have hx1 : (World.drew (w.alloc (.cells #[.int .i64 at_, .int .i64 er] 77))).heap[bx]? = _ := HX1.out
  have ha1 : (World.drew (w.alloc (.cells #[.int .i64 at_, .int .i64 er] 77))).heap[ba]? = _ := HA1.out
  have he1 : (World.drew (w.alloc (.cells #[.int .i64 at_, .int .i64 er] 77))).heap[be]? = _ := HE1.out
  refine wp_region_lex (fun w' => w'.cell? ⟨w.heap.size, 0, none⟩ = some (.int .i64 at_) ∧ w'.cell? ⟨w.heap.size, 1, none⟩ = some (.int .i64 er)) [true, true, true, true, true, false, false, false] (by kernel_rfl) (by kernel_rfl) (fun c a d v w h => HQP.out c a d v w h) ?_
  change wpLex _ _ _ _ _ _ _ _ _ (World.drew (w.alloc (.cells #[.int .i64 at_, .int .i64 er] 77)))
  generalize World.drew (w.alloc (.cells #[.int .i64 at_, .int .i64 er] 77)) = V at *
  have x1 := cell_at hX (i := 0) rfl
  have x2 := cell_at hX (i := 1) rfl
  have x3 := cell_at hx1 (i := 0) rfl
  have x4 := cell_at hx1 (i := 1) rfl
  have x5 := cell_at hx1 (i := 2) rfl
  have xf := fun i => Lib.frozen_of_heap hx1 i
  have x6 := cell_at ha1 (i := 0) rfl
  have xg := Lib.frozen_of_heap ha1 0
  have x7 := cell_at he1 (i := 0) rfl
  have xh := Lib.frozen_of_heap he1 0
  repeat (first | (refine lex_take ⟨x1, x2⟩ rfl (fun w' hw' => by (obtain ⟨y1, y2⟩ := hw'; (try go_simp); try rfl)) (fun K hK => ?_); go_simp; refine hK _ _ ?_; clear hK K) | (refine lex_take_on _ _ _ _ ⟨x1, x2⟩ rfl rfl rfl rfl (fun w' hw' => by (obtain ⟨y1, y2⟩ := hw'; (try go_simp); try rfl)) (fun K hK => ?_); go_simp; refine hK _ _ ?_; clear hK K) | (refine lex_take_off _ _ _ _ _ ⟨x1, x2⟩ rfl rfl rfl rfl rfl (fun K hK => ?_); go_simp; refine hK _ _ ?_; clear hK K))
  refine lex_step rfl (fun K hK => ?_)
  go_wp2_with fail
  have hV1 : (((V.setCell ⟨bx, 0, none⟩ (.slice none 0 0)).setCell ⟨bx, 1, none⟩ (.slice none 0 0)).setCell ⟨bx, 2, none⟩ (.slice none 0 0)).heap[bx]? = some (.cells #[.slice none 0 0, .slice none 0 0, .slice none 0 0] 30 (0, 0)) := by
    rw [heap_setAt (heap_setAt (heap_setAt hx1 (i := 0) _) (i := 1) _) (i := 2) _]
    rfl
  have hG1 : Chg (fun k => k = bx) V (((V.setCell ⟨bx, 0, none⟩ (.slice none 0 0)).setCell ⟨bx, 1, none⟩ (.slice none 0 0)).setCell ⟨bx, 2, none⟩ (.slice none 0 0)) :=
    ((chg_setCell V bx 0 _).trans (chg_setCell _ bx 1 _) (fun _ _ h => h)).trans (chg_setCell _ bx 2 _) (fun _ _ h => h)
  generalize ((V.setCell ⟨bx, 0, none⟩ (.slice none 0 0)).setCell ⟨bx, 1, none⟩ (.slice none 0 0)).setCell ⟨bx, 2, none⟩ (.slice none 0 0) = V1 at *
  have hX2 := hG1.heap hX (fun e => by omega)
  have ha2 := hG1.heap ha1 (fun e => hxa e.symm)
  have he2 := hG1.heap he1 (fun e => hxe e.symm)
  have HG1 := Lib.hid hG1
  have HV1 := Lib.hid hV1
  clear x1 x2 x3 x4 x5 xf x6 xg x7 xh hG1 hV1 hX hx1 ha1 he1
  have x1 := cell_at hX2 (i := 0) rfl
  have x2 := cell_at hX2 (i := 1) rfl
  have x6 := cell_at ha2 (i := 0) rfl
  have xg := Lib.frozen_of_heap ha2 0
  have x7 := cell_at he2 (i := 0) rfl
  have xh := Lib.frozen_of_heap he2 0
  refine hK _ _ ⟨x1, x2⟩ ?_
  clear hK K
  refine lex_step rfl (fun K hK => ?_)
  go_wp2_with fail
  have hG2 := chg_setCell V1 ba 0 (.int .i64 at_)
  have ha3 := heap_setAt ha2 (i := 0) (.int .i64 at_)
  have hX3 := hG2.heap hX2 (fun e => by omega)
  have he3 := hG2.heap he2 (fun e => hae e.symm)
  have hx3 := hG2.heap HV1.out hxa
  generalize V1.setCell ⟨ba, 0, none⟩ (.int .i64 at_) = V2 at *
  have HG2 := Lib.hid hG2
  have HA3 := Lib.hid (show V2.heap[ba]? = some (.cells #[.int .i64 at_] 3 (0, 0)) from ha3)
  have HX3 := Lib.hid hx3
  clear x1 x2 x6 xg x7 xh hG2 ha3 hX2 ha2 he2 hx3
  have x1 := cell_at hX3 (i := 0) rfl
  have x2 := cell_at hX3 (i := 1) rfl
  have x7 := cell_at he3 (i := 0) rfl
  have xh := Lib.frozen_of_heap he3 0
  refine hK _ _ ⟨x1, x2⟩ ?_
  clear hK K
  refine lex_step rfl (fun K hK => ?_)
  go_wp2_with fail
  have hG3 := chg_setCell V2 be 0 (.int .i64 er)
  have he4 : (V2.setCell ⟨be, 0, none⟩ (.int .i64 er)).heap[be]? = some (.cells #[.int .i64 er] 23 (0, 0)) := heap_setAt he3 (i := 0) (.int .i64 er)
  have hX4 := hG3.heap hX3 (fun e => by omega)
  have ha4 := hG3.heap HA3.out hae
  have hx4 := hG3.heap HX3.out hxe
  refine hK _ _ ⟨cell_at hX4 (i := 0) rfl, cell_at hX4 (i := 1) rfl⟩ ?_
  refine lex_nil ?_
  have HFIN := Lib.hid (⟨hx4, ha4, he4, ((HF.out.trans HG1.out (fun _ _ e => Or.inl e)).trans HG2.out (fun _ _ e => Or.inr (Or.inl e))).trans hG3 (fun _ _ e => Or.inr (Or.inr e))⟩ : _ ∧ _ ∧ _ ∧ _)
  clear hG3 he4 hX4 ha4 hx4 x1 x2 x7 xh hX3 he3 hK
  generalize V2.setCell ⟨be, 0, none⟩ (.int .i64 er) = V3 at *
  go_wp2
  refine HQ.out _ _ _ ?_
  have hfin := HFIN.out
  cases c₀
  have := HU.out
  simp_all [bodyPostS, results, Tryz.results35]
end Go.Proofs.YtgpgmmkkmoecmaaGreatDoor

/- inst.Parse. -/
namespace Go.Proofs.YtgpgmmkkmoecmaaGreatDoor
open Go.RowKit
attribute [local irreducible] wpStill wpLex Calls

/-- An instance in memory: its three rows; 'ok': in which blocks. -/
def InsAt (w : World) (ok : Nat → Prop) (dv hv sv : Value) (y : Ins) : Prop := Sl kRow w ok dv y.doms ∧ Sl kCon w ok hv y.hard ∧ Sl kSft w ok sv y.soft
/-- What Parse answers. -/
def ParseOut (w w' : World) (res : Except (Int × Int) Ins) (e : Ending) : Prop :=
  match res with
  | .error (p, x) => e = .returned (.tuple #[.agg #[.slice none 0 0, .slice none 0 0, .slice none 0 0], .int .i64 p, .int .i64 x])
  | .ok y => ∃ dv hv sv, e = .returned (.tuple #[.agg #[dv, hv, sv], .int .i64 0, .int .i64 0]) ∧ InsAt w' (w.heap.size ≤ ·) dv hv sv y ∧ y.doms.length ≤ 40 ∧ y.hard.length ≤ 200 ∧ y.soft.length ≤ 200

theorem signQ_len {s : List UInt8} {ts r : List Tok} {u : Unit} (h : signQ s ts = .ok (u, r)) : r.length + 1 = ts.length := by
  cases ts with
  | nil => cases h
  | cons t r0 => rw [signQ_ok h]; rfl
/-- Each statement told makes one row longer, within its bound. -/
theorem stmtQ_grow {x y : Ins} {ts r : List Tok} (h : stmtQ x ts = .ok (y, r)) (h1 : x.doms.length ≤ 40) (h2 : x.hard.length ≤ 200) (h3 : x.soft.length ≤ 200) : y.doms.length ≤ 40 ∧ y.hard.length ≤ 200 ∧ y.soft.length ≤ 200 := by
  simp only [stmtQ] at h
  split at h
  · cases h
  · generalize (nextQ ts).2 = r0 at h
    split at h
    · cases h
    · rename_i y' r' hy
      split at h
      · cases h
      · injection h with h
        injection h with h _
        subst h
        split at hy
        · split at hy
          · cases hy
          · split at hy
            · cases hy
            · injection hy with hy; injection hy with hy _; subst hy; exact ⟨by simp; omega, h2, h3⟩
        · split at hy
          · split at hy
            · cases hy
            · split at hy
              · cases hy
              · injection hy with hy; injection hy with hy _; subst hy; exact ⟨h1, h2, by simp; omega⟩
          · split at hy
            · cases hy
            · split at hy
              · cases hy
              · injection hy with hy; injection hy with hy _; subst hy; exact ⟨h1, by simp; omega, h3⟩
theorem isQ_len (s : List UInt8) (ts : List Tok) : (isQ s ts).2.length ≤ ts.length := by
  cases ts with
  | nil => exact Nat.le_refl _
  | cons t r => simp only [isQ]; split <;> simp
theorem domQ_len : ∀ (ts : List Tok) (d d' : List Int) (r : List Tok), domQ ts d = .ok (d', r) → r.length ≤ ts.length
  | [], d, d', r, h => by simp [domQ] at h
  | t :: ts, d, d', r, h => by
    rw [domQ] at h
    split at h
    · injection h with h; injection h with _ h; rw [← h]; exact Nat.le_refl _
    · split at h
      · cases h
      · split at h
        · cases h
        · split at h
          · cases h
          · have := domQ_len ts _ _ _ h; simp; omega
theorem rowsQ_len {doms : List (List Int)} {scope : List Int} : ∀ (n : Nat) (ahead rows : List (List Int)) (ts r : List Tok), rowsQ doms scope n ahead ts = .ok (rows, r) → r.length ≤ ts.length
  | 0, _, _, _, _, h => by cases h
  | n + 1, ahead, rows, ts, r, h => by
    rw [rowsQ] at h
    cases hr : rowQ doms scope ahead ts with
    | error e => rw [hr] at h; cases h
    | ok p =>
      obtain ⟨rows1, r1⟩ := p
      rw [hr] at h
      have h1 := (rowQ_len hr).1
      have h2 := isQ_len [44] r1
      simp only at h
      split at h
      · have := rowsQ_len n _ _ _ _ h; omega
      · injection h with h; injection h with _ h; rw [← h]; exact h1
theorem tableQ_len {doms : List (List Int)} {scope : List Int} {ts r : List Tok} {rows : List (List Int)} (h : tableQ doms scope ts = .ok (rows, r)) : r.length ≤ ts.length := by
  simp only [tableQ] at h
  split at h
  · cases h
  · rename_i hs
    have h1 := signQ_len hs
    split at h
    · injection h with h; injection h with _ h; rw [← h]; omega
    · have := rowsQ_len _ _ _ _ _ h; omega
theorem termsQ_len {nd : Nat} : ∀ (n : Nat) (args scope : List Int) (ts r : List Tok) (p : List Int × List Int), termsQ nd n args scope ts = .ok (p, r) → r.length ≤ ts.length
  | 0, _, _, _, _, _, h => by cases h
  | n + 1, args, scope, ts, r, p, h => by
    rw [termsQ] at h
    split at h
    · cases h
    · rename_i t r1 hn
      obtain ⟨rfl, _⟩ := numberQ_ok hn
      split at h
      · cases h
      · split at h
        · cases h
        · rename_i scope' r2 hv
          have h3 : r2.length ≤ r1.length := by
            cases r1 with
            | nil => cases hv
            | cons t1 r1 => obtain ⟨_, h, _⟩ := varQ_ok hv; rw [h]; simp
          have h4 := isQ_len [44] r2
          split at h
          · have := termsQ_len n _ _ _ _ _ h; simp; omega
          · injection h with h; injection h with _ h; rw [← h]; simp; omega
theorem nextQ_len (ts : List Tok) : (nextQ ts).2.length ≤ ts.length := by
  cases ts with
  | nil => exact Nat.le_refl _
  | cons t r => simp only [nextQ]; split <;> simp
theorem linearQ_len {nd : Nat} {ts r : List Tok} {p : List Int × List Int} (h : linearQ nd ts = .ok (p, r)) : r.length ≤ ts.length := by
  rw [linearQ_eq] at h
  split at h
  · cases h
  · rename_i q r1 hq
    have h1 := termsQ_len _ _ _ _ _ _ hq
    simp only [linTail] at h
    split at h
    · cases h
    · rename_i r2 hs
      have h2 := signQ_len hs
      have h3 := nextQ_len r2
      split at h
      · split at h
        · cases h
        · rename_i u r3 hn
          have h4 := (numberQ_ok hn).1
          injection h with h; injection h with _ h
          rw [← h]
          have : (nextQ r2).2.length = r3.length + 1 := by rw [h4]; rfl
          omega
      · cases h
theorem hardQ_len {doms : List (List Int)} {kind : Int} {ts r : List Tok} {c : Con} (h : hardQ doms kind ts = .ok (c, r)) : r.length ≤ ts.length := by
  rw [hardQ] at h
  split at h
  · split at h
    · cases h
    · rename_i hq
      injection h with h; injection h with _ h
      rw [← h]; exact linearQ_len hq
  · split at h
    · cases h
    · rename_i hs
      have h1 := scopeQ_len _ _ _ _ hs
      split at h
      · split at h
        · cases h
        · rename_i ht
          have h2 := tableQ_len ht
          injection h with h; injection h with _ h
          rw [← h]; omega
      · injection h with h; injection h with _ h
        rw [← h]; exact h1
theorem costsQ_len {doms : List (List Int)} {scope : List Int} : ∀ (n : Nat) (rows : List (List Int)) (costs : List Int) (ts r : List Tok) (p : List (List Int) × List Int), costsQ doms scope n rows costs ts = .ok (p, r) → r.length ≤ ts.length
  | 0, _, _, _, _, _, h => by cases h
  | n + 1, rows, costs, ts, r, p, h => by
    have h1 := isQ_len [44] ts
    rw [costsQ] at h
    split at h
    · split at h
      · cases h
      · rename_i hr
        have h2 := (rowQ_len hr).1
        split at h
        · cases h
        · rename_i t r2 hn
          have h3 := (numberQ_ok hn).1
          have h4 := costsQ_len n _ _ _ _ _ h
          rw [h3] at h2
          simp at h2; omega
    · injection h with h; injection h with _ h; rw [← h]; exact Nat.le_refl _
theorem softQ_len {doms : List (List Int)} {ts r : List Tok} {s : Sft} (h : softQ doms ts = .ok (s, r)) : r.length ≤ ts.length := by
  rw [softQ] at h
  split at h
  · cases h
  · rename_i hs
    have h1 := scopeQ_len _ _ _ _ hs
    split at h
    · cases h
    · rename_i hg
      have h2 := signQ_len hg
      split at h
      · cases h
      · rename_i hn
        have h3 := (numberQ_ok hn).1
        split at h
        · cases h
        · rename_i hc
          have h4 := costsQ_len _ _ _ _ _ _ hc
          injection h with h; injection h with _ h
          rw [← h]
          rw [h3] at h2
          simp at h2; omega
theorem stmtQ_len {x y : Ins} {ts r : List Tok} (h : stmtQ x ts = .ok (y, r)) : r.length < ts.length := by
  have h0 := nextQ_len ts
  simp only [stmtQ] at h
  split at h
  · cases h
  · generalize (nextQ ts).2 = r0 at h h0
    split at h
    · cases h
    · rename_i y' r' hy
      split at h
      · cases h
      · rename_i hs
        have h1 := signQ_len hs
        injection h with h
        injection h with _ h
        subst h
        suffices r'.length ≤ r0.length by omega
        split at hy
        · split at hy
          · cases hy
          · split at hy
            · cases hy
            · rename_i hd
              have := domQ_len _ _ _ _ hd
              injection hy with hy; injection hy with _ hy; rw [← hy]; exact this
        · split at hy
          · split at hy
            · cases hy
            · split at hy
              · cases hy
              · rename_i hd
                have := softQ_len hd
                injection hy with hy; injection hy with _ hy; rw [← hy]; exact this
          · split at hy
            · cases hy
            · split at hy
              · cases hy
              · rename_i hd
                have := hardQ_len hd
                injection hy with hy; injection hy with _ hy; rw [← hy]; exact this
theorem scanP_ok : ∀ (f a : Nat) (l : List UInt8) (ts : List Tok), l.length < f → scanP f a l = .ok ts → Toks ts
  | 0, _, _, _, h, _ => by omega
  | f + 1, a, l, ts, hf, h => by
    rw [scanP] at h
    split at h
    · injection h with h; subst h; exact Or.inl rfl
    · rename_i hne
      have hpos : 0 < l.length := List.length_pos_iff.2 hne
      split at h
      · have := leftP_le l
        exact scanP_ok f _ _ _ (by rw [List.length_drop]; omega) h
      · split at h
        · cases h
        · rename_i t k ht
          have hk := tokenP_size ht
          split at h
          · rename_i ts' hs
            injection h with h
            subst h
            exact Or.inr (scanP_ok f _ _ _ (by rw [List.length_drop]; omega) hs)
          · cases h
theorem scanP_err : ∀ (f a : Nat) (l : List UInt8) (p : Nat) (x : Int), scanP f a l = .error (p, x) → x = 2 ∨ x = 4
  | 0, _, _, _, _, h => by cases h
  | f + 1, a, l, p, x, h => by
    rw [scanP] at h
    split at h
    · cases h
    · split at h
      · exact scanP_err f _ _ _ _ h
      · split at h
        · rename_i e he
          injection h with h; injection h with _ h; subst h
          exact tokenP_err he
        · split at h
          · cases h
          · rename_i e hs
            injection h with h; subst h
            exact scanP_err f _ _ _ _ hs
theorem allP_ok {l : List UInt8} {ts : List Tok} (h : allP l = .ok ts) : Toks ts := by
  rw [allP] at h
  split at h
  · cases h
  · exact scanP_ok _ _ _ _ (Nat.lt_succ_self _) h
theorem allP_err {l : List UInt8} {p : Nat} {x : Int} (h : allP l = .error (p, x)) : x ≠ 0 := by
  rw [allP] at h
  split at h
  · injection h with h; injection h with _ h; subst h; decide
  · rcases scanP_err _ _ _ _ _ h with h | h <;> (rw [h]; decide)
theorem stmtsQ_end {n : Nat} {x : Ins} {t : Tok} {r : List Tok} (h : t.kind = 4) : stmtsQ (n + 1) x (t :: r) = .ok x := by rw [stmtsQ]; simp [nth, h]
theorem stmtsQ_err {n : Nat} {x : Ins} {t : Tok} {r : List Tok} {e : Int × Int} (h : ¬ t.kind = 4) (hs : stmtQ x (t :: r) = .error e) : stmtsQ (n + 1) x (t :: r) = .error e := by rw [stmtsQ]; simp [nth, h, hs]
theorem stmtsQ_go {n : Nat} {x y : Ins} {t : Tok} {r r' : List Tok} (h : ¬ t.kind = 4) (hs : stmtQ x (t :: r) = .ok (y, r')) : stmtsQ (n + 1) x (t :: r) = stmtsQ n y r' := by rw [stmtsQ]; simp [nth, h, hs]

theorem five_sets {wr : World} {n ba be : Nat} {a b c d e : Value} {tn ta te : TypeId} (hx : wr.heap[n]? = some (.cells #[a, b, c] tn (0, 0))) (ha : wr.heap[ba]? = some (.cells #[d] ta (0, 0))) (he : wr.heap[be]? = some (.cells #[e] te (0, 0))) (h1 : n < ba) (h2 : ba < be) (A B C D E : Value) :
    (((((wr.setCell ⟨n, 0, none⟩ A).setCell ⟨n, 1, none⟩ B).setCell ⟨n, 2, none⟩ C).setCell ⟨ba, 0, none⟩ D).setCell ⟨be, 0, none⟩ E).heap[n]? = some (.cells #[A, B, C] tn (0, 0)) ∧
    (((((wr.setCell ⟨n, 0, none⟩ A).setCell ⟨n, 1, none⟩ B).setCell ⟨n, 2, none⟩ C).setCell ⟨ba, 0, none⟩ D).setCell ⟨be, 0, none⟩ E).heap[ba]? = some (.cells #[D] ta (0, 0)) ∧
    (((((wr.setCell ⟨n, 0, none⟩ A).setCell ⟨n, 1, none⟩ B).setCell ⟨n, 2, none⟩ C).setCell ⟨ba, 0, none⟩ D).setCell ⟨be, 0, none⟩ E).heap[be]? = some (.cells #[E] te (0, 0)) ∧
    Chg (fun k => k = n ∨ k = ba ∨ k = be) wr (((((wr.setCell ⟨n, 0, none⟩ A).setCell ⟨n, 1, none⟩ B).setCell ⟨n, 2, none⟩ C).setCell ⟨ba, 0, none⟩ D).setCell ⟨be, 0, none⟩ E) := by
  have hV3 : (((wr.setCell ⟨n, 0, none⟩ A).setCell ⟨n, 1, none⟩ B).setCell ⟨n, 2, none⟩ C).heap[n]? = some (.cells #[A, B, C] tn (0, 0)) := by
    rw [heap_setAt (heap_setAt (heap_setAt hx (i := 0) _) (i := 1) _) (i := 2) _]
    rfl
  have hG3 : Chg (fun k => k = n) wr (((wr.setCell ⟨n, 0, none⟩ A).setCell ⟨n, 1, none⟩ B).setCell ⟨n, 2, none⟩ C) :=
    ((chg_setCell wr n 0 _).trans (chg_setCell _ n 1 _) (fun _ _ h => h)).trans (chg_setCell _ n 2 _) (fun _ _ h => h)
  generalize ((wr.setCell ⟨n, 0, none⟩ A).setCell ⟨n, 1, none⟩ B).setCell ⟨n, 2, none⟩ C = V at *
  have hA := hG3.heap ha (fun e => by omega)
  have hE := hG3.heap he (fun e => by omega)
  have hA4 : (V.setCell ⟨ba, 0, none⟩ D).heap[ba]? = some (.cells #[D] ta (0, 0)) := heap_setAt hA (i := 0) D
  have hV4 := (chg_setCell V ba 0 D).heap hV3 (fun e => by omega)
  have hE4 := (chg_setCell V ba 0 D).heap hE (fun e => by omega)
  have hG4 := (hG3.mono (T := fun k => k = n ∨ k = ba ∨ k = be) (fun _ _ e => Or.inl e)).trans (chg_setCell V ba 0 D) (fun _ _ e => Or.inr (Or.inl e))
  generalize V.setCell ⟨ba, 0, none⟩ D = V4 at *
  exact ⟨(chg_setCell V4 be 0 E).heap hV4 (fun e => by omega), (chg_setCell V4 be 0 E).heap hA4 (fun e => by omega), heap_setAt hE4 (i := 0) E, hG4.trans (chg_setCell V4 be 0 E) (fun _ _ e => Or.inr (Or.inr e))⟩
def ParRel (g : Nat) (w3 : World) (res : Except (Int × Int) Ins) (k : Nat) (wr : World) : Prop :=
  ∃ ts' x n, k = ts'.length ∧ res = stmtsQ (n + 1) x ts' ∧ ts'.length ≤ n ∧ ts'.length ≤ 150000 ∧ x.doms.length ≤ 40 ∧ x.hard.length ≤ 200 ∧ x.soft.length ≤ 200 ∧ PAll g wr ts' x ∧ Below g w3 wr
set_option maxRecDepth 100000 in
set_option maxHeartbeats 4000000 in
theorem parse_any (l : List UInt8) (w : World) (hE : Env0 w) (hT : Tabs w) (h8 : 8 ≤ w.heap.size) (hl : l.length ≤ 140737488355328) :
    Calls Tryz.prog 10 #[.string ⟨l.toArray⟩] w fun e w' => ParseOut w w' (parseP l) e ∧ Below w.heap.size w w' := by
  have hmf : ∀ (fn : Fn) (first cap : Array Value) (w : World), (Instr.makeFunc fn first cap).run Tryz.prog w = .ok (.func fn first cap) w := fun _ _ _ _ => rfl
  have hb1 : Below w.heap.size w (((w.alloc (.cells #[.slice none 0 0, .slice none 0 0, .slice none 0 0] 30)).alloc (.cells #[.int .i64 0] 3)).alloc (.cells #[.int .i64 0] 23)) :=
    (((Below.refl _ _).alloc (Nat.le_refl _) _).alloc (by simp) _).alloc (by simp; omega) _
  have hx1 : (((w.alloc (.cells #[.slice none 0 0, .slice none 0 0, .slice none 0 0] 30)).alloc (.cells #[.int .i64 0] 3)).alloc (.cells #[.int .i64 0] 23)).heap[w.heap.size]? = some (.cells #[.slice none 0 0, .slice none 0 0, .slice none 0 0] 30 (0, 0)) :=
    block_kept (below_alloc1 _ _) (block_kept (below_alloc1 _ _) (heap_alloc_new w _))
  have ha1 : (((w.alloc (.cells #[.slice none 0 0, .slice none 0 0, .slice none 0 0] 30)).alloc (.cells #[.int .i64 0] 3)).alloc (.cells #[.int .i64 0] 23)).heap[w.heap.size + 1]? = some (.cells #[.int .i64 0] 3 (0, 0)) := by
    have e : (w.alloc (.cells #[.slice none 0 0, .slice none 0 0, .slice none 0 0] 30)).heap.size = w.heap.size + 1 := by simp
    rw [← e]
    exact block_kept (below_alloc1 _ _) (heap_alloc_new _ _)
  have he1 : (((w.alloc (.cells #[.slice none 0 0, .slice none 0 0, .slice none 0 0] 30)).alloc (.cells #[.int .i64 0] 3)).alloc (.cells #[.int .i64 0] 23)).heap[w.heap.size + 1 + 1]? = some (.cells #[.int .i64 0] 23 (0, 0)) := by
    have e : ((w.alloc (.cells #[.slice none 0 0, .slice none 0 0, .slice none 0 0] 30)).alloc (.cells #[.int .i64 0] 3)).heap.size = w.heap.size + 1 + 1 := by simp
    rw [← e]
    exact heap_alloc_new _ _
  have hs1 : w.heap.size + 1 + 1 < (((w.alloc (.cells #[.slice none 0 0, .slice none 0 0, .slice none 0 0] 30)).alloc (.cells #[.int .i64 0] 3)).alloc (.cells #[.int .i64 0] 23)).heap.size := by simp
  have hall := Lib.hid (all_any l _ (hE.below hb1 h8) (Nat.le_trans h8 hb1.size) hl)
  have HB1 := Lib.hid hb1
  have HX1 := Lib.hid hx1
  have HA1 := Lib.hid ha1
  have HE1 := Lib.hid he1
  have HT1 := Lib.hid (hT.below hb1 h8)
  clear hb1 hx1 ha1 he1 hE hT
  go_enter_defers Tryz.func10, Tryz.ntmps10
  go_wp2_with fail
  generalize ((w.alloc (.cells #[.slice none 0 0, .slice none 0 0, .slice none 0 0] 30)).alloc (.cells #[.int .i64 0] 3)).alloc (.cells #[.int .i64 0] 23) = W1 at *
  have hxa : w.heap.size < w.heap.size + 1 := Nat.lt_succ_self _
  have hae : w.heap.size + 1 < w.heap.size + 1 + 1 := Nat.lt_succ_self _
  generalize w.heap.size + 1 + 1 = be at *
  generalize w.heap.size + 1 = ba at *
  rcases hq : allP l with ⟨p, x⟩ | ts
  · have HR : Hid (parseP l = .error ((p : Int), x)) := Lib.hid (by rw [parseP, hq])
    have hx0 : (x != 0) = true := by simpa using allP_err hq
    rw [hq] at hall
    clear hq
    refine hall.out.mono ?_
    rintro e W2 ⟨he, hb⟩
    simp only at he
    subst he
    have hX2 := block_kept hb HX1.out
    have hA2 := block_kept hb HA1.out
    have hE2 := block_kept hb HE1.out
    have HB2 := Lib.hid (HB1.out.trans (hb.mono (by have := HB1.out.size; omega)))
    have y1 := cell_at hA2 (i := 0) rfl
    have yf := Lib.frozen_of_heap hA2 0
    have y2 := cell_at hE2 (i := 0) rfl
    have yg := Lib.frozen_of_heap hE2 0
    have HX2 := Lib.hid hX2
    have HA2 := Lib.hid hA2
    have HE2 := Lib.hid hE2
    clear hall hb hX2 hA2 hE2 HX1 HA1 HE1
    go_wp2_with fail
    have hV2 : ((W2.setCell ⟨ba, 0, none⟩ (.int .i64 p)).setCell ⟨be, 0, none⟩ (.int .i64 x)).drew.heap[w.heap.size]? = _ := (chg_setCell _ be 0 (.int .i64 x)).heap ((chg_setCell W2 ba 0 (.int .i64 p)).heap HX2.out (fun e => by omega)) (fun e => by omega)
    have hA3 : ((W2.setCell ⟨ba, 0, none⟩ (.int .i64 p)).setCell ⟨be, 0, none⟩ (.int .i64 x)).drew.heap[ba]? = some (.cells #[.int .i64 p] 3 (0, 0)) := (chg_setCell _ be 0 (.int .i64 x)).heap (heap_setAt HA2.out (i := 0) (.int .i64 p)) (fun e => by omega)
    have hE3 : ((W2.setCell ⟨ba, 0, none⟩ (.int .i64 p)).setCell ⟨be, 0, none⟩ (.int .i64 x)).drew.heap[be]? = some (.cells #[.int .i64 x] 23 (0, 0)) := heap_setAt ((chg_setCell W2 ba 0 (.int .i64 p)).heap HE2.out (fun e => by omega)) (i := 0) (.int .i64 x)
    have hB3 : Below w.heap.size w ((W2.setCell ⟨ba, 0, none⟩ (.int .i64 p)).setCell ⟨be, 0, none⟩ (.int .i64 x)).drew := HB2.out.trans ((((chg_setCell W2 ba 0 (.int .i64 p)).mono (fun _ _ e => (Or.inl e : _ ∨ _))).trans (chg_setCell _ be 0 (.int .i64 x)) (fun _ _ e => Or.inr e)).drew.below (fun k hk e => by omega) HB2.out.size)
    have HB3 := Lib.hid hB3
    refine wp_region_noPanic ?_
    refine wp_region_lex (fun w' => w'.heap[w.heap.size]? = some (.cells #[.slice none 0 0, .slice none 0 0, .slice none 0 0] 30 (0, 0)) ∧ w'.heap[ba]? = some (.cells #[.int .i64 p] 3 (0, 0)) ∧ w'.heap[be]? = some (.cells #[.int .i64 x] 23 (0, 0))) [true, true, true, false, false, false] (by kernel_rfl) (by kernel_rfl) (fun c a d v w h => h) ?_
    change wpLex _ _ _ _ _ _ _ _ _ (World.drew ((W2.setCell ⟨ba, 0, none⟩ (.int .i64 p)).setCell ⟨be, 0, none⟩ (.int .i64 x)))
    clear y1 yf y2 yg HX2 HA2 HE2 HB2 hB3
    generalize World.drew ((W2.setCell ⟨ba, 0, none⟩ (.int .i64 p)).setCell ⟨be, 0, none⟩ (.int .i64 x)) = V at *
    iterate 3 (refine lex_take ⟨hV2, hA3, hE3⟩ rfl (fun w' hw' => by (obtain ⟨q1, q2, q3⟩ := hw'; (have r1 := cell_at q1 (i := 0) rfl); (have r2 := cell_at q1 (i := 1) rfl); (have r3 := cell_at q1 (i := 2) rfl); (have r4 := cell_at q2 (i := 0) rfl); (have r5 := cell_at q3 (i := 0) rfl); (try go_simp); try rfl)) (fun K hK => ?_); go_simp; refine hK _ _ ?_; clear hK K)
    have r1 := cell_at hV2 (i := 0) rfl
    have r2 := cell_at hV2 (i := 1) rfl
    have r3 := cell_at hV2 (i := 2) rfl
    have rf := fun i => Lib.frozen_of_heap hV2 i
    refine lex_step rfl (fun K hK => ?_)
    go_wp2_with fail
    have hV3 : (((V.setCell ⟨w.heap.size, 0, none⟩ (.slice none 0 0)).setCell ⟨w.heap.size, 1, none⟩ (.slice none 0 0)).setCell ⟨w.heap.size, 2, none⟩ (.slice none 0 0)).heap[w.heap.size]? = some (.cells #[.slice none 0 0, .slice none 0 0, .slice none 0 0] 30 (0, 0)) := by
      rw [heap_setAt (heap_setAt (heap_setAt hV2 (i := 0) _) (i := 1) _) (i := 2) _]
      rfl
    have hG3 : Chg (fun k => k = w.heap.size) V (((V.setCell ⟨w.heap.size, 0, none⟩ (.slice none 0 0)).setCell ⟨w.heap.size, 1, none⟩ (.slice none 0 0)).setCell ⟨w.heap.size, 2, none⟩ (.slice none 0 0)) :=
      ((chg_setCell V w.heap.size 0 _).trans (chg_setCell _ w.heap.size 1 _) (fun _ _ h => h)).trans (chg_setCell _ w.heap.size 2 _) (fun _ _ h => h)
    generalize ((V.setCell ⟨w.heap.size, 0, none⟩ (.slice none 0 0)).setCell ⟨w.heap.size, 1, none⟩ (.slice none 0 0)).setCell ⟨w.heap.size, 2, none⟩ (.slice none 0 0) = V3 at *
    have hA4 := hG3.heap hA3 (fun e => by omega)
    have hE4 := hG3.heap hE3 (fun e => by omega)
    have HB4 := Lib.hid (HB3.out.trans (hG3.below (B := w.heap.size) (fun k hk e => by omega) HB3.out.size))
    clear r1 r2 r3 rf hG3 hV2 hA3 hE3
    have y1 := cell_at hA4 (i := 0) rfl
    have yf := Lib.frozen_of_heap hA4 0
    refine hK _ _ ⟨hV3, hA4, hE4⟩ ?_
    clear hK K
    refine lex_step rfl (fun K hK => ?_)
    go_wp2_with fail
    have hG5 := chg_setCell V3 ba 0 (.int .i64 p)
    have hA5 : (V3.setCell ⟨ba, 0, none⟩ (.int .i64 p)).heap[ba]? = some (.cells #[.int .i64 p] 3 (0, 0)) := heap_setAt hA4 (i := 0) (.int .i64 p)
    have hV5 := hG5.heap hV3 (fun e => by omega)
    have hE5 := hG5.heap hE4 (fun e => by omega)
    have HB5 := Lib.hid (HB4.out.trans (hG5.below (B := w.heap.size) (fun k hk e => by omega) HB4.out.size))
    generalize V3.setCell ⟨ba, 0, none⟩ (.int .i64 p) = V5 at *
    clear y1 yf hG5 hV3 hA4 hE4
    have y1 := cell_at hE5 (i := 0) rfl
    have yf := Lib.frozen_of_heap hE5 0
    refine hK _ _ ⟨hV5, hA5, hE5⟩ ?_
    clear hK K
    refine lex_step rfl (fun K hK => ?_)
    go_wp2_with fail
    have hG6 := chg_setCell V5 be 0 (.int .i64 x)
    have hE6 : (V5.setCell ⟨be, 0, none⟩ (.int .i64 x)).heap[be]? = some (.cells #[.int .i64 x] 23 (0, 0)) := heap_setAt hE5 (i := 0) (.int .i64 x)
    have hV6 := hG6.heap hV5 (fun e => by omega)
    have hA6 := hG6.heap hA5 (fun e => by omega)
    have HB6 := Lib.hid (HB5.out.trans (hG6.below (B := w.heap.size) (fun k hk e => by omega) HB5.out.size))
    generalize V5.setCell ⟨be, 0, none⟩ (.int .i64 x) = V6 at *
    refine hK _ _ ⟨hV6, hA6, hE6⟩ ?_
    clear hK K y1 yf hG6 hV5 hA5 hE5
    refine lex_nil ?_
    refine NoPanic.normal ?_
    have r1 := cell_at hV6 (i := 0) rfl
    have r2 := cell_at hV6 (i := 1) rfl
    have r3 := cell_at hV6 (i := 2) rfl
    have r4 := cell_at hA6 (i := 0) rfl
    have r5 := cell_at hE6 (i := 0) rfl
    clear hV6 hA6 hE6
    go_wp2
    refine ⟨.tuple #[.agg #[.slice none 0 0, .slice none 0 0, .slice none 0 0], .int .i64 p, .int .i64 x], ?_, ?_, HB6.out⟩
    · simp [results, Tryz.results10, go_sem, r1, r2, r3, r4, r5]
    · rw [HR.out]; rfl
  · have hq2 : parseP l = stmtsQ (ts.length + 1) ⟨[], [], []⟩ ts := by rw [parseP, hq]
    have HQ := Lib.hid hq2
    have HTK := Lib.hid (allP_ok hq)
    rw [hq] at hall
    clear hq hq2
    refine hall.out.mono ?_
    rintro e W2 ⟨⟨v, rfl, hot, htl⟩, hb⟩
    obtain ⟨TA, Tc, rfl, _, _, _⟩ := hot.sl (by omega)
    have hX2 := block_kept hb HX1.out
    have hA2 := block_kept hb HA1.out
    have hE2 := block_kept hb HE1.out
    have HB2 := Lib.hid (HB1.out.trans (hb.mono (by have := HB1.out.size; omega)))
    have HT2 := Lib.hid (HT1.out.below hb (by have := HB1.out.size; omega))
    have y1 := cell_at hA2 (i := 0) rfl
    have yf := Lib.frozen_of_heap hA2 0
    have y2 := cell_at hE2 (i := 0) rfl
    have yg := Lib.frozen_of_heap hE2 0
    have hsz2 := hb.size
    have HX2 := Lib.hid hX2
    have HA2 := Lib.hid hA2
    have HE2 := Lib.hid hE2
    have HOT := Lib.hid hot
    clear hall hb hX2 hA2 hE2 HX1 HA1 HE1 hot HT1
    go_wp2_with fail
    have hF : Chg (fun k => k = ba ∨ k = be) W2 (((W2.setCell ⟨ba, 0, none⟩ (.int .i64 0)).setCell ⟨be, 0, none⟩ (.int .i64 0)).alloc (.cells #[.slice TA ts.length Tc, .slice none 0 0, .slice none 0 0, .slice none 0 0] 80)) :=
      (((chg_setCell W2 ba 0 (.int .i64 0)).mono (fun _ _ e => (Or.inl e : _ ∨ _))).trans (chg_setCell _ be 0 (.int .i64 0)) (fun _ _ e => Or.inr e)).alloc _
    have hsz3 : ((W2.setCell ⟨ba, 0, none⟩ (.int .i64 0)).setCell ⟨be, 0, none⟩ (.int .i64 0)).heap.size = W2.heap.size := by rw [Go.Deep.nblk_setCell, Go.Deep.nblk_setCell]
    have hX3 := hF.heap HX2.out (fun e => by omega)
    have hA3 : (((W2.setCell ⟨ba, 0, none⟩ (.int .i64 0)).setCell ⟨be, 0, none⟩ (.int .i64 0)).alloc (.cells #[.slice TA ts.length Tc, .slice none 0 0, .slice none 0 0, .slice none 0 0] 80)).heap[ba]? = some (.cells #[.int .i64 0] 3 (0, 0)) :=
      block_kept (below_alloc1 _ _) ((chg_setCell _ be 0 (.int .i64 0)).heap (heap_setAt HA2.out (i := 0) (.int .i64 0)) (fun e => by omega))
    have hE3 : (((W2.setCell ⟨ba, 0, none⟩ (.int .i64 0)).setCell ⟨be, 0, none⟩ (.int .i64 0)).alloc (.cells #[.slice TA ts.length Tc, .slice none 0 0, .slice none 0 0, .slice none 0 0] 80)).heap[be]? = some (.cells #[.int .i64 0] 23 (0, 0)) :=
      block_kept (below_alloc1 _ _) (heap_setAt ((chg_setCell W2 ba 0 (.int .i64 0)).heap HE2.out (fun e => by omega)) (i := 0) (.int .i64 0))
    have hG3 : (((W2.setCell ⟨ba, 0, none⟩ (.int .i64 0)).setCell ⟨be, 0, none⟩ (.int .i64 0)).alloc (.cells #[.slice TA ts.length Tc, .slice none 0 0, .slice none 0 0, .slice none 0 0] 80)).heap[W2.heap.size]? = some (.cells #[.slice TA ts.length Tc, .slice none 0 0, .slice none 0 0, .slice none 0 0] 80 (0, 0)) := by
      rw [← hsz3]; exact heap_alloc_new _ _
    have hB3 : Below w.heap.size w (((W2.setCell ⟨ba, 0, none⟩ (.int .i64 0)).setCell ⟨be, 0, none⟩ (.int .i64 0)).alloc (.cells #[.slice TA ts.length Tc, .slice none 0 0, .slice none 0 0, .slice none 0 0] 80)) := HB2.out.trans (hF.below (B := w.heap.size) (fun k hk e => by omega) HB2.out.size)
    have hT3 : Tabs (((W2.setCell ⟨ba, 0, none⟩ (.int .i64 0)).setCell ⟨be, 0, none⟩ (.int .i64 0)).alloc (.cells #[.slice TA ts.length Tc, .slice none 0 0, .slice none 0 0, .slice none 0 0] 80)) := HT2.out.below (hF.below (B := w.heap.size) (fun k hk e => by omega) HB2.out.size) h8
    have hP3 : PAll W2.heap.size (((W2.setCell ⟨ba, 0, none⟩ (.int .i64 0)).setCell ⟨be, 0, none⟩ (.int .i64 0)).alloc (.cells #[.slice TA ts.length Tc, .slice none 0 0, .slice none 0 0, .slice none 0 0] 80)) ts ⟨[], [], []⟩ := by
      refine ⟨_, _, _, (fun _ => False), ⟨TA, ts.length, Tc, hG3, ?_⟩, ⟨OwnD.nil _ _ _ _ _, OwnD.nil _ _ _ _ _, OwnD.nil _ _ _ _ _, fun _ h => h.elim, fun k h => by simp [Value.ownBlock] at h, fun k h => by simp [Value.ownBlock] at h, fun k h => by simp [Value.ownBlock] at h⟩, HTK.out⟩
      have := ((HOT.out.sl (by omega)).move (w1 := W2) (by decide) (fun _ _ _ => rfl))
      exact (this.chg (by decide) hF (fun k hk e => by have := hk.1; omega)).mono fun k hk => hk.2
    have HX3 := Lib.hid hX3
    have HA3 := Lib.hid hA3
    have HE3 := Lib.hid hE3
    have HB3 := Lib.hid hB3
    have HT3 := Lib.hid hT3
    have HP3 := Lib.hid hP3
    have hg8 : 8 ≤ W2.heap.size := by have := HB2.out.size; omega
    have hbg : be < W2.heap.size := by omega
    clear y1 yf y2 yg hF hsz3 hX3 hA3 hE3 hG3 hB3 hT3 hP3 HX2 HA2 HE2 HB2 HT2 HOT
    generalize ((W2.setCell ⟨ba, 0, none⟩ (.int .i64 0)).setCell ⟨be, 0, none⟩ (.int .i64 0)).alloc (.cells #[.slice TA ts.length Tc, .slice none 0 0, .slice none 0 0, .slice none 0 0] 80) = W3 at *
    generalize W2.heap.size = g at *
    obtain ⟨res, hres⟩ : ∃ res, res = parseP l := ⟨_, rfl⟩
    have HRES := Lib.hid hres
    clear hres
    go_loopg [22] ts.length (fun k _ wr => ParRel g W3 res k wr)
    case atStart => exact ⟨ts, ⟨[], [], []⟩, ts.length, rfl, HRES.out.trans HQ.out, Nat.le_refl _, by omega, by simp, by simp, by simp, HP3.out, Below.refl _ _⟩
    case round =>
      clear HP3 HTK
      obtain ⟨ts3, x, fu, hk, hq, hfu, hl5, hx1, hx2, hx3, hpa, hbw⟩ := hrel
      obtain ⟨t5, r5, rfl⟩ := hpa.toks.cons
      have HK := Lib.hid hk
      have HQ2 := Lib.hid hq
      have HPA := Lib.hid hpa
      have HBW := Lib.hid hbw
      have hst := Lib.hid (statement_p g wr _ x hpa hx1 hx2 hx3 hl5 (HT3.out.below hbw hg8) hg8)
      obtain ⟨dv, hv, sv, ok, hp, hs, _⟩ := hpa
      obtain ⟨DA, Dc, rfl, _, _, _⟩ := hs.D.sl (by omega)
      obtain ⟨HA, Hc, rfl, _, _, _⟩ := hs.H.sl (by omega)
      obtain ⟨SA, Sc, rfl, _, _, _⟩ := hs.S.sl (by omega)
      obtain ⟨A, n, c, hgb, hsl⟩ := hp
      obtain ⟨b, o, rfl, hb, hn, hnc, hmc, c0, c1, c2, c3⟩ := tok_head hsl
      have g0 := cell_at hgb (i := 0) rfl
      have hn0 : 0 < n := by omega
      have HGB := Lib.hid hgb
      have HS := Lib.hid hs
      clear hgb hsl hn hs hk hq hbw
      generalize (ByteArray.mk t5.text.toArray) = tb at c1
      by_cases h4 : t5.kind = 4
      · have HR : Hid (parseP l = .ok x) := Lib.hid (by rw [← HRES.out, HQ2.out]; exact stmtsQ_end h4)
        have h4b : (t5.kind != 4) = false := by simp [h4]
        have g1 := cell_at HGB.out (i := 1) rfl
        have g2 := cell_at HGB.out (i := 2) rfl
        have g3 := cell_at HGB.out (i := 3) rfl
        have hxw : wr.heap[w.heap.size]? = _ := (HBW.out.block w.heap.size (by omega)).trans HX3.out
        have haw : wr.heap[ba]? = _ := (HBW.out.block ba (by omega)).trans HA3.out
        have hew : wr.heap[be]? = _ := (HBW.out.block be (by omega)).trans HE3.out
        have r1 := cell_at hxw (i := 0) rfl
        have r2 := cell_at hxw (i := 1) rfl
        have r3 := cell_at hxw (i := 2) rfl
        have rf := fun i => Lib.frozen_of_heap hxw i
        have r4 := cell_at haw (i := 0) rfl
        have rg := Lib.frozen_of_heap haw 0
        have r5 := cell_at hew (i := 0) rfl
        have rh := Lib.frozen_of_heap hew 0
        have HXW := Lib.hid hxw
        have HAW := Lib.hid haw
        have HEW := Lib.hid hew
        clear hxw haw hew h4
        go_wp2
        have h5 := Lib.hid (five_sets HXW.out HAW.out HEW.out hxa hae (.slice DA x.doms.length Dc) (.slice HA x.hard.length Hc) (.slice SA x.soft.length Sc) (.int .i64 0) (.int .i64 0))
        generalize ((((wr.setCell ⟨w.heap.size, 0, none⟩ (.slice DA x.doms.length Dc)).setCell ⟨w.heap.size, 1, none⟩ (.slice HA x.hard.length Hc)).setCell ⟨w.heap.size, 2, none⟩ (.slice SA x.soft.length Sc)).setCell ⟨ba, 0, none⟩ (.int .i64 0)).setCell ⟨be, 0, none⟩ (.int .i64 0) = V at *
        refine leaves_cons (f := 35) (args := #[.pointer (some ⟨w.heap.size, 0, none⟩), .pointer (some ⟨ba, 0, none⟩), .pointer (some ⟨be, 0, none⟩)]) (by simp) (by simp [go_sem]) ?_
        refine (parse1_idle _ _ _ V).mono ?_
        rintro e u' w'' ⟨rfl, rfl, rfl⟩
        obtain ⟨hx6, ha6, he6, hF6⟩ := h5.out
        have q1 := cell_at hx6 (i := 0) rfl
        have q2 := cell_at hx6 (i := 1) rfl
        have q3 := cell_at hx6 (i := 2) rfl
        have q4 := cell_at ha6 (i := 0) rfl
        have q5 := cell_at he6 (i := 0) rfl
        clear r1 r2 r3 rf r4 rg r5 rh g0 g1 g2 g3 c0 c1 c2 c3
        refine ⟨.tuple #[.agg #[.slice DA x.doms.length Dc, .slice HA x.hard.length Hc, .slice SA x.soft.length Sc], .int .i64 0, .int .i64 0], ?_, ?_, ?_⟩
        · simp [results, Tryz.results10, go_sem, q1, q2, q3, q4, q5]
        · rw [HR.out]
          have hgs := HBW.out.size
          have hs := HS.out
          refine ⟨_, _, _, rfl, ⟨?_, ?_, ?_⟩, hx1, hx2, hx3⟩
          · exact ((hs.D.sl (by omega)).chg (by decide) hF6 (fun k hk e => by
              have hkg : g < k := by
                rcases hk with hk | hk
                · exact (hs.okg k hk).1
                · have := hs.D.own k hk; omega
              omega)).mono (fun k hk => by
              rcases hk with hk | hk
              · have := (hs.okg k hk).1; omega
              · have := hs.D.own k hk; omega)
          · exact ((hs.H.sl (by omega)).chg (by decide) hF6 (fun k hk e => by
              have hkg : g < k := by
                rcases hk with hk | hk
                · exact (hs.okg k hk).1
                · have := hs.H.own k hk; omega
              omega)).mono (fun k hk => by
              rcases hk with hk | hk
              · have := (hs.okg k hk).1; omega
              · have := hs.H.own k hk; omega)
          · exact ((hs.S.sl (by omega)).chg (by decide) hF6 (fun k hk e => by
              have hkg : g < k := by
                rcases hk with hk | hk
                · exact (hs.okg k hk).1
                · have := hs.S.own k hk; omega
              omega)).mono (fun k hk => by
              rcases hk with hk | hk
              · have := (hs.okg k hk).1; omega
              · have := hs.S.own k hk; omega)
        · have hbw2 := HB3.out.trans (HBW.out.mono (by omega) : Below w.heap.size W3 wr)
          exact hbw2.trans (hF6.below (B := w.heap.size) (fun k hk e => by omega) hbw2.size)
      · have h4b : (t5.kind != 4) = true := by simp [h4]
        rcases hsq : stmtQ x (t5 :: r5) with ⟨p, y⟩ | ⟨x2, r6⟩
        · have HR : Hid (parseP l = .error (p, y)) := Lib.hid (by rw [← HRES.out, HQ2.out]; exact stmtsQ_err h4 hsq)
          rw [hsq] at hst
          clear hsq h4
          go_wp2_with (go_at_call 36; refine hst.out.mono ?_; rintro e w' ⟨he, hg⟩; obtain rfl : e = wrongs p y := he; (have HBW6 := Lib.hid (HBW.out.trans hg)); clear hg)
          have hxw : w'.heap[w.heap.size]? = _ := (HBW6.out.block w.heap.size (by omega)).trans HX3.out
          have haw : w'.heap[ba]? = _ := (HBW6.out.block ba (by omega)).trans HA3.out
          have hew : w'.heap[be]? = _ := (HBW6.out.block be (by omega)).trans HE3.out
          refine leaves_cons (f := 35) (args := #[.pointer (some ⟨w.heap.size, 0, none⟩), .pointer (some ⟨ba, 0, none⟩), .pointer (some ⟨be, 0, none⟩)]) (by simp) (by simp [go_sem]) ?_
          refine (parse1_wrong w.heap.size ba be p y _ _ _ _ _ [] w' hxw haw hew (by omega) (by omega) (by omega)).mono ?_
          rintro e u' w'' ⟨rfl, rfl, hx6, ha6, he6, hF6⟩
          have q1 := cell_at hx6 (i := 0) rfl
          have q2 := cell_at hx6 (i := 1) rfl
          have q3 := cell_at hx6 (i := 2) rfl
          have q4 := cell_at ha6 (i := 0) rfl
          have q5 := cell_at he6 (i := 0) rfl
          clear g0 c0 c1 c2 c3
          refine ⟨.tuple #[.agg #[.slice none 0 0, .slice none 0 0, .slice none 0 0], .int .i64 p, .int .i64 y], ?_, ?_, ?_⟩
          · simp [results, Tryz.results10, go_sem, q1, q2, q3, q4, q5]
          · rw [HR.out]; rfl
          · have hgs := HBW.out.size
            have hbw2 := HB3.out.trans (HBW6.out.mono (by omega) : Below w.heap.size W3 w')
            exact hbw2.trans (hF6.below (B := w.heap.size) (fun k hk e => by omega) hbw2.size)
        · have HR : Hid (res = stmtsQ fu x2 r6) := Lib.hid (by rw [HQ2.out]; exact stmtsQ_go h4 hsq)
          have hgr := stmtQ_grow hsq hx1 hx2 hx3
          have hln := stmtQ_len hsq
          rw [hsq] at hst
          simp only [List.length_cons] at hfu hln hl5
          obtain ⟨f2, hf2⟩ : ∃ f2, fu = f2 + 1 := ⟨fu - 1, by omega⟩
          rw [hf2] at HR
          have HK2 := Lib.hid (show r6.length < gk by have := HK.out; simp only [List.length_cons] at this; omega)
          clear hsq h4
          go_wp2_with (go_at_call 36; refine hst.out.mono ?_; rintro e w' ⟨⟨rfl, hpa6⟩, hg⟩; (have HPA6 := Lib.hid hpa6); (have HBW6 := Lib.hid (HBW.out.trans hg)); clear hpa6 hg)
          go_roundg r6.length
          case rel => exact ⟨r6, x2, f2, rfl, HR.out, by omega, by omega, hgr.1, hgr.2.1, hgr.2.2, HPA6.out, HBW6.out⟩
          case measure => exact HK2.out
end Go.Proofs.YtgpgmmkkmoecmaaGreatDoor

/- arboristref01.Compare, arboristref06.ints, tuples. -/
namespace Go.Proofs.YtgpgmmkkmoecmaaGreatDoor
open Go.RowKit
attribute [local irreducible] wpStill wpLex Calls

theorem cmpL_zero : ∀ (xs ys : List Int), cmpL xs ys = 0 ↔ xs = ys
  | [], [] => by simp [cmpL]
  | [], _ :: _ => by simp [cmpL]
  | _ :: _, [] => by simp [cmpL]
  | a :: l, b :: m => by
    rw [cmpL]
    split
    · constructor
      · intro h; omega
      · intro h; injection h with h; omega
    · split
      · constructor
        · intro h; omega
        · intro h; injection h with h; omega
      · rw [cmpL_zero l m]
        have : a = b := by omega
        rw [this]; simp
theorem cmpL_drop (xs ys : List Int) (k : Nat) (h : k < xs.length) (h' : k < ys.length) : cmpL (xs.drop k) (ys.drop k) = if nth 0 xs k < nth 0 ys k then -1 else if nth 0 ys k < nth 0 xs k then 1 else cmpL (xs.drop (k + 1)) (ys.drop (k + 1)) := by
  rw [drop_cons xs 0 k h, drop_cons ys 0 k h', cmpL]

theorem refcmp_any (v1 v2 : Value) (xs ys : List Int) (ok : Nat → Prop) (w : World) (h1 : Sl (Kd.int .i64) w ok v1 xs) (h2 : Sl (Kd.int .i64) w ok v2 ys) :
    Calls Tryz.prog 72 #[v1, v2] w fun e w' => e = .returned (.int .i64 (cmpL xs ys)) ∧ ∃ n, w' = w.drewN n := by
  obtain ⟨A, c, rfl, hc, hm, hA⟩ := h1
  obtain ⟨A', c', rfl, hc', hm', hA'⟩ := h2
  go_enter Tryz.func72, Tryz.ntmps72
  go_wp2
  go_loopw [5] (fun i wr => ∃ k : Nat, i = .int .i64 k ∧ k ≤ xs.length ∧ k ≤ ys.length ∧ Hid (cmpL xs ys = cmpL (xs.drop k) (ys.drop k)) ∧ ∃ n, wr = w.drewN n) (fun i _ => xs.length - (intOf i).toNat)
  case atStart => exact ⟨0, rfl, by omega, by omega, Lib.hid rfl, 0, rfl⟩
  case round =>
    obtain ⟨k, rfl, hk, hk', H, nd, rfl⟩ := hrel
    by_cases hlt : k < xs.length
    · by_cases hlt' : k < ys.length
      · obtain ⟨b, o, rfl, hcell⟩ := hA.num hlt
        obtain ⟨b', o', rfl, hcell'⟩ := hA'.num hlt'
        clear hA hA'
        have H' := Lib.hid (cmpL_drop xs ys k hlt hlt')
        by_cases h : nth 0 xs k < nth 0 ys k
        · go_wp2
          go_quiet (fail)
          go_wp2
          go_ret
          exact ⟨ret_int (by rw [H.out, H'.out, if_pos h]), by first | exact ⟨_, rfl⟩ | exact ⟨_, World.drewN_drewN ..⟩⟩
        · by_cases h2 : nth 0 ys k < nth 0 xs k
          · go_wp2
            go_quiet (fail)
            go_wp2
            go_quiet (fail)
            go_wp2
            go_ret
            exact ⟨ret_int (by rw [H.out, H'.out, if_neg (by omega), if_pos h2]), _, by rw [World.drewN_drewN, World.drewN_drewN]⟩
          · go_wp2
            go_quiet (fail)
            go_wp2
            go_quiet (fail)
            go_wp2
            go_roundw
            case rel => exact ⟨k + 1, by go_num, by omega, by omega, Lib.hid (by rw [H.out, H'.out, if_neg (by omega), if_neg (by omega)]), _, rfl⟩
            case measure => simp [intOf]; omega
      · go_wp2
        go_ret
        refine ⟨ret_int ?_, _, rfl⟩
        rw [H.out, drop_cons xs 0 k hlt, List.drop_eq_nil_of_le (show ys.length ≤ k by omega)]; rfl
    · have hb1 := Lib.hid hlt
      by_cases hlt' : k < ys.length
      · go_wp2
        go_ret
        refine ⟨ret_int ?_, _, rfl⟩
        rw [H.out, drop_cons ys 0 k hlt', List.drop_eq_nil_of_le (show xs.length ≤ k by omega)]; rfl
      · go_wp2
        go_ret
        refine ⟨ret_int ?_, _, rfl⟩
        rw [H.out, List.drop_eq_nil_of_le (show xs.length ≤ k by omega), List.drop_eq_nil_of_le (show ys.length ≤ k by omega)]; rfl

theorem ints_any (v1 v2 : Value) (xs ys : List Int) (ok : Nat → Prop) (w : World) (h1 : Sl (Kd.int .i64) w ok v1 xs) (h2 : Sl (Kd.int .i64) w ok v2 ys) :
    Calls Tryz.prog 38 #[v1, v2] w fun e w' => e = .returned (.bool (decide (xs = ys))) ∧ ∃ n, w' = w.drewN n := by
  have hx : Hid (decide (xs = ys) = (cmpL xs ys == 0)) := Lib.hid (by rw [decide_eq_decide.2 (cmpL_zero xs ys).symm]; rfl)
  go_enter Tryz.func38, Tryz.ntmps38
  go_wp2_with (go_at_call 72; refine (refcmp_any _ _ _ _ _ _ h1 h2).mono ?_; rintro e w' ⟨rfl, n, rfl⟩)
  go_ret
  exact ⟨ret_bool hx.out.symm, _, rfl⟩

theorem drop_same (xs ys : List (List Int)) (k : Nat) (h : k < xs.length) (h' : k < ys.length) : decide (xs.drop k = ys.drop k) = (decide (nth [] xs k = nth [] ys k) && decide (xs.drop (k + 1) = ys.drop (k + 1))) := by
  rw [drop_cons xs [] k h, drop_cons ys [] k h']
  simp
def TupRel (w : World) (xs ys : List (List Int)) (g : Nat) (v : Value) (wr : World) : Prop :=
  ∃ k : Nat, v = .int .i64 k ∧ k ≤ xs.length ∧ Hid (decide (xs = ys) = decide (xs.drop k = ys.drop k)) ∧ ∃ n, wr = w.drewN n ∧ g = xs.length - k
set_option maxRecDepth 100000 in
theorem tuples_any (v1 v2 : Value) (xs ys : List (List Int)) (ok : Nat → Prop) (w : World) (h1 : Sl kRow w ok v1 xs) (h2 : Sl kRow w ok v2 ys) :
    Calls Tryz.prog 37 #[v1, v2] w fun e w' => e = .returned (.bool (decide (xs = ys))) ∧ ∃ n, w' = w.drewN n := by
  have H1 := Lib.hid h1
  have H2 := Lib.hid h2
  obtain ⟨A, c, rfl, hc, hm, _⟩ := h1
  obtain ⟨A', c', rfl, hc', hm', _⟩ := h2
  go_enter Tryz.func37, Tryz.ntmps37
  by_cases hl : xs.length = ys.length
  · have hb : ((xs.length : Int) != ys.length) = false := by simp [hl]
    have HL := Lib.hid hl
    go_wp2
    clear hl hb
    go_loopg [5] xs.length (fun g v wr => TupRel w xs ys g v wr)
    case atStart => exact ⟨0, rfl, by omega, Lib.hid rfl, 0, rfl, by omega⟩
    case round =>
      obtain ⟨k, rfl, hk, H, nd, rfl, hg⟩ := hrel
      have HG := Lib.hid hg
      clear hg
      by_cases hlt : k < xs.length
      · obtain ⟨b, o, v, rfl, hcell, hv⟩ := H1.out.elems.row (j := k) hlt
        obtain ⟨b', o', v', rfl, hcell', hv'⟩ := H2.out.elems.row (j := k) (by have := HL.out; omega)
        have hlt' : k < ys.length := by have := HL.out; omega
        have hr := Lib.hid (fun n => (ints_any v v' _ _ ok ((w.drewN nd).drewN n) hv hv'))
        have H' := Lib.hid (drop_same xs ys k hlt hlt')
        clear H1 H2 hv hv'
        go_wp2_with fail
        refine wp_region_lex (fun w' => w'.cell? ⟨b, o + k, none⟩ = some v ∧ w'.cell? ⟨b', o' + k, none⟩ = some v') [true, true, true, true, true, true, true, true, false, false] (by kernel_rfl) (by kernel_rfl) (fun c a d v w h => by cases d <;> exact h) ?_
        change wpLex _ _ _ _ _ _ _ _ _ (World.drew (w.drewN nd))
        have e1 : (World.drew (w.drewN nd)).cell? ⟨b, o + k, none⟩ = some v := hcell
        have e2 : (World.drew (w.drewN nd)).cell? ⟨b', o' + k, none⟩ = some v' := hcell'
        repeat (first | (refine lex_take ⟨e1, e2⟩ rfl (fun w' hw' => by (obtain ⟨x1, x2⟩ := hw'; (try go_simp); try rfl)) (fun K hK => ?_); go_simp; refine hK _ _ ?_; clear hK K) | (refine lex_take_on _ _ _ _ ⟨e1, e2⟩ rfl rfl rfl rfl (fun w' hw' => by (obtain ⟨x1, x2⟩ := hw'; (try go_simp); try rfl)) (fun K hK => ?_); go_simp; refine hK _ _ ?_; clear hK K) | (refine lex_take_off _ _ _ _ _ ⟨e1, e2⟩ rfl rfl rfl rfl rfl (fun K hK => ?_); go_simp; refine hK _ _ ?_; clear hK K))
        cases hb : decide (nth [] xs k = nth [] ys k)
        · rw [hb] at hr H'
          have HR := Lib.hid (hr.out 1)
          clear hr
          refine lex_step rfl (fun K hK => ?_)
          go_wp2_with (go_at_call 38; refine HR.out.mono ?_; rintro e w' ⟨rfl, n2, rfl⟩)
          refine hK _ _ ⟨e1, e2⟩ ?_
          clear hK K
          refine lex_list _ _ _ _ _ rfl (by kernel_rfl) ?_
          go_wp2
          go_ret
          exact ⟨ret_bool (by rw [H.out, H'.out]; rfl), _, rfl⟩
        · rw [hb] at hr H'
          have HR := Lib.hid (hr.out 1)
          clear hr
          refine lex_step rfl (fun K hK => ?_)
          go_wp2_with (go_at_call 38; refine HR.out.mono ?_; rintro e w' ⟨rfl, n2, rfl⟩)
          refine hK _ _ ⟨e1, e2⟩ ?_
          clear hK K
          refine lex_list _ _ _ _ _ rfl (by kernel_rfl) ?_
          go_wp2
          go_roundg (xs.length - (k + 1))
          case rel => exact ⟨k + 1, by go_num, by omega, Lib.hid (by rw [H.out, H'.out]; simp), _, rfl, rfl⟩
          case measure => have := HG.out; omega
      · go_wp2
        go_ret
        refine ⟨ret_bool ?_, _, rfl⟩
        have := HL.out
        rw [H.out, List.drop_eq_nil_of_le (by omega), List.drop_eq_nil_of_le (by omega)]; rfl
  · have hb : ((xs.length : Int) != ys.length) = true := by simp; omega
    go_wp2
    go_ret
    exact ⟨ret_bool (by simp; intro e; rw [e] at hl; omega), 0, rfl⟩
end Go.Proofs.YtgpgmmkkmoecmaaGreatDoor

/- arboristref06.Same. -/
namespace Go.Proofs.YtgpgmmkkmoecmaaGreatDoor
open Go.RowKit
attribute [local irreducible] wpStill wpLex Calls

theorem drop_sameG {α : Type} [DecidableEq α] (z : α) (xs ys : List α) (k : Nat) (h : k < xs.length) (h' : k < ys.length) : decide (xs.drop k = ys.drop k) = (decide (nth z xs k = nth z ys k) && decide (xs.drop (k + 1) = ys.drop (k + 1))) := by
  rw [drop_cons xs z k h, drop_cons ys z k h']
  simp
theorem same_con (a b : Con) : decide (a = b) = (decide (a.kind = b.kind) && decide (a.scope = b.scope) && decide (a.args = b.args) && decide (a.rows = b.rows)) := by
  cases a; cases b; simp [Con.mk.injEq]; grind
theorem same_sft (a b : Sft) : decide (a = b) = (decide (a.scope = b.scope) && decide (a.rows = b.rows) && decide (a.dflt = b.dflt) && decide (a.costs = b.costs)) := by
  cases a; cases b; simp [Sft.mk.injEq]; grind
theorem same_ins (a b : Ins) : decide (a = b) = (decide (a.doms = b.doms) && decide (a.hard = b.hard) && decide (a.soft = b.soft)) := by
  cases a; cases b; simp [Ins.mk.injEq]; grind

theorem below_store {w W : World} {o : Obj} (h : (w.alloc o).grownBy W (some w.heap.size)) : Below w.heap.size w W :=
  Below.grownAt ((Below.refl _ _).alloc (Nat.le_refl _) _) h (by simp) (Nat.le_refl _)
theorem cell_below {w W : World} {p : Addr} {v : Value} (h : Below w.heap.size w W) (hc : w.cell? p = some v) : W.cell? p = some v := (h.cell (lt_of_cell hc)).trans hc
theorem ints_below (v1 v2 : Value) (xs ys : List Int) (ok : Nat → Prop) (w : World) (h1 : Sl (Kd.int .i64) w ok v1 xs) (h2 : Sl (Kd.int .i64) w ok v2 ys) :
    Calls Tryz.prog 38 #[v1, v2] w fun e w' => e = .returned (.bool (decide (xs = ys))) ∧ Below w.heap.size w w' :=
  (ints_any v1 v2 xs ys ok w h1 h2).mono fun e w' ⟨h, n, hw⟩ => ⟨h, by rw [hw]; exact below_drewN (Below.refl _ _) n⟩
theorem tuples_below (v1 v2 : Value) (xs ys : List (List Int)) (ok : Nat → Prop) (w : World) (h1 : Sl kRow w ok v1 xs) (h2 : Sl kRow w ok v2 ys) :
    Calls Tryz.prog 37 #[v1, v2] w fun e w' => e = .returned (.bool (decide (xs = ys))) ∧ Below w.heap.size w w' :=
  (tuples_any v1 v2 xs ys ok w h1 h2).mono fun e w' ⟨h, n, hw⟩ => ⟨h, by rw [hw]; exact below_drewN (Below.refl _ _) n⟩
/-- A loop over two rows that are held against each other: how far it is. -/
def SamRel {α : Type} [DecidableEq α] (w : World) (xs ys : List α) (g : Nat) (v : Value) (wr : World) : Prop :=
  ∃ k : Nat, v = .int .i64 k ∧ k ≤ xs.length ∧ Hid (decide (xs = ys) = decide (xs.drop k = ys.drop k)) ∧ Below w.heap.size w wr ∧ g = xs.length - k

set_option maxRecDepth 100000 in
set_option maxHeartbeats 4000000 in
theorem same_any (dv hv sv dv' hv' sv' : Value) (x y : Ins) (ok : Nat → Prop) (w : World) (h1 : InsAt w ok dv hv sv x) (h2 : InsAt w ok dv' hv' sv' y) :
    Calls Tryz.prog 11 #[.agg #[dv, hv, sv], .agg #[dv', hv', sv']] w fun e w' => e = .returned (.bool (decide (x = y))) ∧ Below w.heap.size w w' := by
  obtain ⟨hD, hH, hS⟩ := h1
  obtain ⟨hD', hH', hS'⟩ := h2
  have HD := Lib.hid hD
  have HH := Lib.hid hH
  have HS := Lib.hid hS
  have HD' := Lib.hid hD'
  have HH' := Lib.hid hH'
  have HS' := Lib.hid hS'
  obtain ⟨DA, Dc, rfl, hc1, hm1, _⟩ := hD
  obtain ⟨HA, Hc, rfl, hc2, hm2, _⟩ := hH
  obtain ⟨SA, Sc, rfl, hc3, hm3, _⟩ := hS
  obtain ⟨DA', Dc', rfl, hc1', hm1', _⟩ := hD'
  obtain ⟨HA', Hc', rfl, hc2', hm2', _⟩ := hH'
  obtain ⟨SA', Sc', rfl, hc3', hm3', _⟩ := hS'
  go_enter Tryz.func11, Tryz.ntmps11
  have hb0 : Below w.heap.size w ((w.alloc (.cells #[.slice DA x.doms.length Dc, .slice HA x.hard.length Hc, .slice SA x.soft.length Sc] 30)).alloc (.cells #[.slice DA' y.doms.length Dc', .slice HA' y.hard.length Hc', .slice SA' y.soft.length Sc'] 30)) :=
    ((Below.refl _ _).alloc (Nat.le_refl _) _).alloc (by simp) _
  have hx0 : ((w.alloc (.cells #[.slice DA x.doms.length Dc, .slice HA x.hard.length Hc, .slice SA x.soft.length Sc] 30)).alloc (.cells #[.slice DA' y.doms.length Dc', .slice HA' y.hard.length Hc', .slice SA' y.soft.length Sc'] 30)).heap[w.heap.size]? = some (.cells #[.slice DA x.doms.length Dc, .slice HA x.hard.length Hc, .slice SA x.soft.length Sc] 30 (0, 0)) :=
    block_kept (below_alloc1 _ _) (heap_alloc_new w _)
  have hy0 : ((w.alloc (.cells #[.slice DA x.doms.length Dc, .slice HA x.hard.length Hc, .slice SA x.soft.length Sc] 30)).alloc (.cells #[.slice DA' y.doms.length Dc', .slice HA' y.hard.length Hc', .slice SA' y.soft.length Sc'] 30)).heap[w.heap.size + 1]? = some (.cells #[.slice DA' y.doms.length Dc', .slice HA' y.hard.length Hc', .slice SA' y.soft.length Sc'] 30 (0, 0)) := by
    have := heap_alloc_new (w.alloc (.cells #[.slice DA x.doms.length Dc, .slice HA x.hard.length Hc, .slice SA x.soft.length Sc] 30)) (.cells #[.slice DA' y.doms.length Dc', .slice HA' y.hard.length Hc', .slice SA' y.soft.length Sc'] 30)
    simpa using this
  have HT := Lib.hid (tuples_below _ _ _ _ ok _ (HD.out.below (by decide) hb0) (HD'.out.below (by decide) hb0))
  have HB := Lib.hid hb0
  have HX := Lib.hid hx0
  have HY := Lib.hid hy0
  have hs0 : w.heap.size + 2 ≤ ((w.alloc (.cells #[.slice DA x.doms.length Dc, .slice HA x.hard.length Hc, .slice SA x.soft.length Sc] 30)).alloc (.cells #[.slice DA' y.doms.length Dc', .slice HA' y.hard.length Hc', .slice SA' y.soft.length Sc'] 30)).heap.size := by simp
  have HS0 := Lib.hid hs0
  have HSM := Lib.hid (same_ins x y)
  clear hb0 hx0 hy0 hs0
  cases hq1 : decide (x.doms = y.doms)
  · rw [hq1] at HT
    have HQ1 := Lib.hid hq1
    clear hq1
    go_wp2_with (go_at_call 37; refine HT.out.mono ?_; rintro e w' ⟨rfl, hg⟩; (have h0 := block_kept hg HX.out); (have h1 := block_kept hg HY.out); (have HB2 := Lib.hid (below_next HB.out hg)); (have x0 := cell_at h0 (i := 0) rfl); (have x1 := cell_at h0 (i := 1) rfl); (have x2 := cell_at h0 (i := 2) rfl); (have y0 := cell_at h1 (i := 0) rfl); (have y1 := cell_at h1 (i := 1) rfl); (have y2 := cell_at h1 (i := 2) rfl); (have HX2 := Lib.hid h0); (have HY2 := Lib.hid h1); (have HS2 := Lib.hid (Nat.le_trans HS0.out hg.size)); clear h0 h1 hg HX HY HB HS0)
    go_ret
    exact ⟨ret_bool (by rw [HSM.out, HQ1.out]; rfl), HB2.out⟩
  · by_cases hq2 : x.hard.length = y.hard.length
    · have hb2 : ((x.hard.length : Int) != y.hard.length) = false := by simp [hq2]
      by_cases hq3 : x.soft.length = y.soft.length
      · have hb3 : ((x.soft.length : Int) != y.soft.length) = false := by simp [hq3]
        have HL2 := Lib.hid hq2
        have HL3 := Lib.hid hq3
        clear hq2 hq3
        rw [hq1] at HT
        have HQ1 := Lib.hid hq1
        clear hq1
        go_wp2_with (go_at_call 37; refine HT.out.mono ?_; rintro e w' ⟨rfl, hg⟩; (have h0 := block_kept hg HX.out); (have h1 := block_kept hg HY.out); (have HB2 := Lib.hid (below_next HB.out hg)); (have x0 := cell_at h0 (i := 0) rfl); (have x1 := cell_at h0 (i := 1) rfl); (have x2 := cell_at h0 (i := 2) rfl); (have y0 := cell_at h1 (i := 0) rfl); (have y1 := cell_at h1 (i := 1) rfl); (have y2 := cell_at h1 (i := 2) rfl); (have HX2 := Lib.hid h0); (have HY2 := Lib.hid h1); (have HS2 := Lib.hid (Nat.le_trans HS0.out hg.size)); clear h0 h1 hg HX HY HB HS0)
        clear hb2 hb3 x0 x1 x2 y0 y1 y2
        go_loopg [5] x.hard.length (fun g v wr => SamRel w' x.hard y.hard g v wr)
        case atStart => exact ⟨0, rfl, by omega, Lib.hid rfl, Below.refl _ _, rfl⟩
        case round =>
          obtain ⟨k, rfl, hk, H, hg, hgk⟩ := hrel
          have HGK := Lib.hid hgk
          have hl3 : w.heap.size + 2 ≤ wr.heap.size := Nat.le_trans HS2.out hg.size
          have h0 := block_kept hg HX2.out
          have h1 := block_kept hg HY2.out
          have x1 := cell_at h0 (i := 1) rfl
          have y1 := cell_at h1 (i := 1) rfl
          have HG := Lib.hid hg
          have HBR := Lib.hid (below_next HB2.out hg)
          have HX3 := Lib.hid h0
          have HY3 := Lib.hid h1
          clear h0 h1 hg hgk
          by_cases hlt : k < x.hard.length
          · obtain ⟨b, o, cs, rfl, _, hK, hcell⟩ := (HH.out.below (by decide) HBR.out).elems k (nth default x.hard k) (nth_get default x.hard k hlt)
            have hlt' : k < y.hard.length := by have := HL2.out; omega
            obtain ⟨b', o', cs', rfl, _, hK', hcell'⟩ := (HH'.out.below (by decide) HBR.out).elems k (nth default y.hard k) (nth_get default y.hard k hlt')
            obtain ⟨vs, vr, va, rfl, e1, e2, e3⟩ := kCon_cells hK
            obtain ⟨vs', vr', va', rfl, e1', e2', e3'⟩ := kCon_cells hK'
            have H' := Lib.hid (drop_sameG default x.hard y.hard k hlt hlt')
            have HC := Lib.hid (same_con (nth default x.hard k) (nth default y.hard k))
            generalize nth default x.hard k = c at *
            generalize nth default y.hard k = d at *
            have f0 := hcell 0 _ rfl
            have f1 := hcell 1 _ rfl
            have f2 := hcell 2 _ rfl
            have f3 := hcell 3 _ rfl
            have f0' := hcell' 0 _ rfl
            have f1' := hcell' 1 _ rfl
            have f2' := hcell' 2 _ rfl
            have f3' := hcell' 3 _ rfl
            simp only [show kCon.sz = 4 from rfl, Nat.add_zero, ← Nat.add_assoc] at f0 f1 f2 f3 f0' f1' f2' f3'
            have E1 := Lib.hid e1
            have E2 := Lib.hid e2
            have E3 := Lib.hid e3
            have E1' := Lib.hid e1'
            have E2' := Lib.hid e2'
            have E3' := Lib.hid e3'
            obtain ⟨_, _, rfl, _, _, _⟩ := e1
            obtain ⟨_, _, rfl, _, _, _⟩ := e2
            obtain ⟨_, _, rfl, _, _, _⟩ := e3
            obtain ⟨_, _, rfl, _, _, _⟩ := e1'
            obtain ⟨_, _, rfl, _, _, _⟩ := e2'
            obtain ⟨_, _, rfl, _, _, _⟩ := e3'
            clear hcell hcell' hK hK' HH HH'
            have hn1 := heap_alloc_new wr (.cells #[.int .i64 0, .slice none 0 0, .slice none 0 0, .slice none 0 0] 34)
            have HN1 := Lib.hid hn1
            clear hn1
            go_wp2_with (refine wpList_store_abs rfl 34 _ _ rfl wr.heap.size _ rfl rfl 34 _ HN1.out (by kernel_rfl) rfl (by simp [Value.oneCell']) ?_)
            intro W hW hgr
            have hbw := below_store hgr
            have h0 := block_kept hbw HX3.out
            have h1 := block_kept hbw HY3.out
            have y1' := cell_at h1 (i := 1) rfl
            have g0' := (cell_below hbw f0')
            have g1' := (cell_below hbw f1')
            have g2' := (cell_below hbw f2')
            have g3' := (cell_below hbw f3')
            have HBW := Lib.hid hbw
            have HW1 := Lib.hid hW
            clear h0 h1 hbw f0 f1 f2 f3 f0' f1' f2' f3' x1 y1 hgr hW HN1
            have hn1 := heap_alloc_new W (.cells #[.int .i64 0, .slice none 0 0, .slice none 0 0, .slice none 0 0] 34)
            have HN1 := Lib.hid hn1
            clear hn1
            go_wp2_with (refine wpList_store_abs rfl 34 _ _ rfl W.heap.size _ rfl rfl 34 _ HN1.out (by kernel_rfl) rfl (by simp [Value.oneCell']) ?_)
            intro W2 hW2 hgr
            have hbw := below_store hgr
            have HC1 := Lib.hid (block_kept hbw HW1.out)
            have HC2 := Lib.hid hW2
            have HBW2 := Lib.hid (below_next HBW.out hbw)
            have HI1 := Lib.hid (fun W3 (hb : Below W2.heap.size W2 W3) => ints_below _ _ _ _ ok W3 (E1.out.below (by decide) (below_next HBW2.out hb)) (E1'.out.below (by decide) (below_next HBW2.out hb)))
            have HI2 := Lib.hid (fun W3 (hb : Below W2.heap.size W2 W3) => ints_below _ _ _ _ ok W3 (E3.out.below (by decide) (below_next HBW2.out hb)) (E3'.out.below (by decide) (below_next HBW2.out hb)))
            have HT3 := Lib.hid (fun W3 (hb : Below W2.heap.size W2 W3) => tuples_below _ _ _ _ ok W3 (E2.out.below (by decide) (below_next HBW2.out hb)) (E2'.out.below (by decide) (below_next HBW2.out hb)))
            have HBC := Lib.hid (Below.refl W2.heap.size W2)
            have c0 := cell_at hW2 (i := 0) rfl
            have c1 := cell_at hW2 (i := 1) rfl
            have d0 := cell_at HC1.out (i := 0) rfl
            have d1 := cell_at HC1.out (i := 1) rfl
            clear hW2 hgr hbw g0' g1' g2' g3' y1' HN1 HW1 HBW E1 E1' E2 E2' E3 E3'
            by_cases hk1 : c.kind = d.kind
            · have hb1 : (c.kind != d.kind) = false := by simp [hk1]
              rw [decide_eq_true hk1] at HC
              clear hk1
              cases hs : decide (c.scope = d.scope)
              · rw [hs] at HI1 HC
                clear hs
                go_wp2_with (first
                  | (go_at_call 38; refine (HI1.out _ HBC.out).mono ?_; rintro e w3 ⟨rfl, hb⟩; (have HBD := Lib.hid (below_next HBC.out hb)); (have c3 := cell_at (block_kept HBD.out HC2.out) (i := 3) rfl); (have d3 := cell_at (block_kept HBD.out HC1.out) (i := 3) rfl); clear HI1 HBC c0 c1 d0 d1 hb)
                  | (go_at_call 38; refine (HI2.out _ HBD.out).mono ?_; rintro e w4 ⟨rfl, hb⟩; (have HBE := Lib.hid (below_next HBD.out hb)); (have c2 := cell_at (block_kept HBE.out HC2.out) (i := 2) rfl); (have d2 := cell_at (block_kept HBE.out HC1.out) (i := 2) rfl); clear HI2 HBD c3 d3 hb)
                  | (go_at_call 37; refine (HT3.out _ HBE.out).mono ?_; rintro e w5 ⟨rfl, hb⟩; (have HBF := Lib.hid (below_next HBE.out hb)); clear HT3 HBE c2 d2 hb))
                go_ret
                exact ⟨ret_bool (by rw [HSM.out, H.out, H'.out, HC.out]; simp), below_next (below_next HBR.out HBW2.out) HBD.out⟩
              · cases hs2 : decide (c.args = d.args)
                · rw [hs2] at HI2 HC
                  clear hs2
                  rw [hs] at HI1 HC
                  clear hs
                  go_wp2_with (first
                    | (go_at_call 38; refine (HI1.out _ HBC.out).mono ?_; rintro e w3 ⟨rfl, hb⟩; (have HBD := Lib.hid (below_next HBC.out hb)); (have c3 := cell_at (block_kept HBD.out HC2.out) (i := 3) rfl); (have d3 := cell_at (block_kept HBD.out HC1.out) (i := 3) rfl); clear HI1 HBC c0 c1 d0 d1 hb)
                    | (go_at_call 38; refine (HI2.out _ HBD.out).mono ?_; rintro e w4 ⟨rfl, hb⟩; (have HBE := Lib.hid (below_next HBD.out hb)); (have c2 := cell_at (block_kept HBE.out HC2.out) (i := 2) rfl); (have d2 := cell_at (block_kept HBE.out HC1.out) (i := 2) rfl); clear HI2 HBD c3 d3 hb)
                    | (go_at_call 37; refine (HT3.out _ HBE.out).mono ?_; rintro e w5 ⟨rfl, hb⟩; (have HBF := Lib.hid (below_next HBE.out hb)); clear HT3 HBE c2 d2 hb))
                  go_ret
                  exact ⟨ret_bool (by rw [HSM.out, H.out, H'.out, HC.out]; simp), below_next (below_next HBR.out HBW2.out) HBE.out⟩
                · rw [hs2] at HI2 HC
                  clear hs2
                  cases hs3 : decide (c.rows = d.rows)
                  · rw [hs3] at HT3 HC
                    clear hs3
                    rw [hs] at HI1 HC
                    clear hs
                    go_wp2_with (first
                      | (go_at_call 38; refine (HI1.out _ HBC.out).mono ?_; rintro e w3 ⟨rfl, hb⟩; (have HBD := Lib.hid (below_next HBC.out hb)); (have c3 := cell_at (block_kept HBD.out HC2.out) (i := 3) rfl); (have d3 := cell_at (block_kept HBD.out HC1.out) (i := 3) rfl); clear HI1 HBC c0 c1 d0 d1 hb)
                      | (go_at_call 38; refine (HI2.out _ HBD.out).mono ?_; rintro e w4 ⟨rfl, hb⟩; (have HBE := Lib.hid (below_next HBD.out hb)); (have c2 := cell_at (block_kept HBE.out HC2.out) (i := 2) rfl); (have d2 := cell_at (block_kept HBE.out HC1.out) (i := 2) rfl); clear HI2 HBD c3 d3 hb)
                      | (go_at_call 37; refine (HT3.out _ HBE.out).mono ?_; rintro e w5 ⟨rfl, hb⟩; (have HBF := Lib.hid (below_next HBE.out hb)); clear HT3 HBE c2 d2 hb))
                    go_ret
                    exact ⟨ret_bool (by rw [HSM.out, H.out, H'.out, HC.out]; simp), below_next (below_next HBR.out HBW2.out) HBF.out⟩
                  · rw [hs3] at HT3 HC
                    clear hs3
                    rw [hs] at HI1 HC
                    clear hs
                    go_wp2_with (first
                      | (go_at_call 38; refine (HI1.out _ HBC.out).mono ?_; rintro e w3 ⟨rfl, hb⟩; (have HBD := Lib.hid (below_next HBC.out hb)); (have c3 := cell_at (block_kept HBD.out HC2.out) (i := 3) rfl); (have d3 := cell_at (block_kept HBD.out HC1.out) (i := 3) rfl); clear HI1 HBC c0 c1 d0 d1 hb)
                      | (go_at_call 38; refine (HI2.out _ HBD.out).mono ?_; rintro e w4 ⟨rfl, hb⟩; (have HBE := Lib.hid (below_next HBD.out hb)); (have c2 := cell_at (block_kept HBE.out HC2.out) (i := 2) rfl); (have d2 := cell_at (block_kept HBE.out HC1.out) (i := 2) rfl); clear HI2 HBD c3 d3 hb)
                      | (go_at_call 37; refine (HT3.out _ HBE.out).mono ?_; rintro e w5 ⟨rfl, hb⟩; (have HBF := Lib.hid (below_next HBE.out hb)); clear HT3 HBE c2 d2 hb))
                    go_roundg (x.hard.length - (k + 1))
                    case rel => exact ⟨k + 1, by go_num, by omega, Lib.hid (by rw [H.out, H'.out, HC.out]; simp), below_next (below_next HG.out HBW2.out) HBF.out, rfl⟩
                    case measure => have := HGK.out; omega
            · have hb1 : (c.kind != d.kind) = true := by simp [hk1]
              rw [decide_eq_false hk1] at HC
              clear hk1
              go_wp2
              go_ret
              exact ⟨ret_bool (by rw [HSM.out, H.out, H'.out, HC.out]; simp), below_next HBR.out HBW2.out⟩
          · have HQ2 : Hid (decide (x.hard = y.hard) = true) := Lib.hid (by rw [H.out, List.drop_eq_nil_of_le (by omega), List.drop_eq_nil_of_le (by have := HL2.out; omega)]; rfl)
            have x2 := cell_at HX3.out (i := 2) rfl
            have y2 := cell_at HY3.out (i := 2) rfl
            clear H HH HH' HX2 HY2 HGK HL2
            go_wp2
            clear x1 y1 x2 y2 hlt hk
            go_loopg [8] x.soft.length (fun g v wr2 => SamRel wr x.soft y.soft g v wr2)
            case atStart => exact ⟨0, rfl, by omega, Lib.hid rfl, Below.refl _ _, rfl⟩
            case round =>
              obtain ⟨k2, rfl, hk, H, hg, hgk⟩ := hrel
              have HGK := Lib.hid hgk
              have hl4 : w.heap.size + 2 ≤ wr.heap.size := Nat.le_trans hl3 hg.size
              have h0 := block_kept hg HX3.out
              have h1 := block_kept hg HY3.out
              have x1 := cell_at h0 (i := 2) rfl
              have y1 := cell_at h1 (i := 2) rfl
              have HG2 := Lib.hid hg
              have HBR2 := Lib.hid (below_next HBR.out hg)
              have HX4 := Lib.hid h0
              have HY4 := Lib.hid h1
              clear h0 h1 hg hgk
              by_cases hlt : k2 < x.soft.length
              · obtain ⟨b, o, cs, rfl, _, hK, hcell⟩ := (HS.out.below (by decide) HBR2.out).elems k2 (nth default x.soft k2) (nth_get default x.soft k2 hlt)
                have hlt' : k2 < y.soft.length := by have := HL3.out; omega
                obtain ⟨b', o', cs', rfl, _, hK', hcell'⟩ := (HS'.out.below (by decide) HBR2.out).elems k2 (nth default y.soft k2) (nth_get default y.soft k2 hlt')
                obtain ⟨vs, vr, vc, rfl, e1, e2, e3⟩ := kSft_cells hK
                obtain ⟨vs', vr', vc', rfl, e1', e2', e3'⟩ := kSft_cells hK'
                have H' := Lib.hid (drop_sameG default x.soft y.soft k2 hlt hlt')
                have HC := Lib.hid (same_sft (nth default x.soft k2) (nth default y.soft k2))
                generalize nth default x.soft k2 = c at *
                generalize nth default y.soft k2 = d at *
                have f0 := hcell 0 _ rfl
                have f1 := hcell 1 _ rfl
                have f2 := hcell 2 _ rfl
                have f3 := hcell 3 _ rfl
                have f0' := hcell' 0 _ rfl
                have f1' := hcell' 1 _ rfl
                have f2' := hcell' 2 _ rfl
                have f3' := hcell' 3 _ rfl
                simp only [show kSft.sz = 4 from rfl, Nat.add_zero, ← Nat.add_assoc] at f0 f1 f2 f3 f0' f1' f2' f3'
                have E1 := Lib.hid e1
                have E2 := Lib.hid e2
                have E3 := Lib.hid e3
                have E1' := Lib.hid e1'
                have E2' := Lib.hid e2'
                have E3' := Lib.hid e3'
                obtain ⟨_, _, rfl, _, _, _⟩ := e1
                obtain ⟨_, _, rfl, _, _, _⟩ := e2
                obtain ⟨CA, Cc, rfl, hcc, hcm, _⟩ := e3
                obtain ⟨_, _, rfl, _, _, _⟩ := e1'
                obtain ⟨_, _, rfl, _, _, _⟩ := e2'
                obtain ⟨CA', Cc', rfl, hcc', hcm', _⟩ := e3'
                clear hcell hcell' hK hK' HS HS'
                have hn1 := heap_alloc_new wr (.cells #[.slice none 0 0, .slice none 0 0, .slice none 0 0, .int .i64 0] 37)
                have HN1 := Lib.hid hn1
                clear hn1
                go_wp2_with (refine wpList_store_abs rfl 37 _ _ rfl wr.heap.size _ rfl rfl 37 _ HN1.out (by kernel_rfl) rfl (by simp [Value.oneCell']) ?_)
                intro W hW hgr
                have hbw := below_store hgr
                have h0 := block_kept hbw HX4.out
                have h1 := block_kept hbw HY4.out
                have y1' := cell_at h1 (i := 2) rfl
                have g0' := (cell_below hbw f0')
                have g1' := (cell_below hbw f1')
                have g2' := (cell_below hbw f2')
                have g3' := (cell_below hbw f3')
                have HBW := Lib.hid hbw
                have HW1 := Lib.hid hW
                clear h0 h1 hbw f0 f1 f2 f3 f0' f1' f2' f3' x1 y1 hgr hW HN1
                have hn1 := heap_alloc_new W (.cells #[.slice none 0 0, .slice none 0 0, .slice none 0 0, .int .i64 0] 37)
                have HN1 := Lib.hid hn1
                clear hn1
                go_wp2_with (refine wpList_store_abs rfl 37 _ _ rfl W.heap.size _ rfl rfl 37 _ HN1.out (by kernel_rfl) rfl (by simp [Value.oneCell']) ?_)
                intro W2 hW2 hgr
                have hbw := below_store hgr
                have HC1 := Lib.hid (block_kept hbw HW1.out)
                have HC2 := Lib.hid hW2
                have HBW2 := Lib.hid (below_next HBW.out hbw)
                have HI1 := Lib.hid (fun W3 (hb : Below W2.heap.size W2 W3) => ints_below _ _ _ _ ok W3 (E1.out.below (by decide) (below_next HBW2.out hb)) (E1'.out.below (by decide) (below_next HBW2.out hb)))
                have HT3 := Lib.hid (fun W3 (hb : Below W2.heap.size W2 W3) => tuples_below _ _ _ _ ok W3 (E2.out.below (by decide) (below_next HBW2.out hb)) (E2'.out.below (by decide) (below_next HBW2.out hb)))
                have HBC := Lib.hid (Below.refl W2.heap.size W2)
                have c0 := cell_at hW2 (i := 0) rfl
                have d0 := cell_at HC1.out (i := 0) rfl
                clear hW2 hgr hbw g0' g1' g2' g3' y1' HN1 HW1 HBW E1 E1' E2 E2'
                cases hs : decide (c.scope = d.scope)
                · rw [hs] at HI1 HC
                  clear hs
                  go_wp2_with (first
                    | (go_at_call 38; refine (HI1.out _ HBC.out).mono ?_; rintro e w3 ⟨rfl, hb⟩; (have HBD := Lib.hid (below_next HBC.out hb)); (have c1 := cell_at (block_kept HBD.out HC2.out) (i := 1) rfl); (have d1 := cell_at (block_kept HBD.out HC1.out) (i := 1) rfl); clear HI1 HBC c0 d0 hb)
                    | (go_at_call 37; refine (HT3.out _ HBD.out).mono ?_; rintro e w4 ⟨rfl, hb⟩; (have HBE := Lib.hid (below_next HBD.out hb)); (have HX5 := Lib.hid (block_kept HBE.out HC2.out)); (have HY5 := Lib.hid (block_kept HBE.out HC1.out)); (have c2 := cell_at HX5.out (i := 2) rfl); (have d2 := cell_at HY5.out (i := 2) rfl); (have c3 := cell_at HX5.out (i := 3) rfl); (have d3 := cell_at HY5.out (i := 3) rfl); clear HT3 HBD c1 d1 hb))
                  go_ret
                  exact ⟨ret_bool (by rw [HSM.out, H.out, H'.out, HC.out]; simp), below_next (below_next HBR2.out HBW2.out) HBD.out⟩
                · cases hs2 : decide (c.rows = d.rows)
                  · rw [hs2] at HT3 HC
                    clear hs2
                    rw [hs] at HI1 HC
                    clear hs
                    go_wp2_with (first
                      | (go_at_call 38; refine (HI1.out _ HBC.out).mono ?_; rintro e w3 ⟨rfl, hb⟩; (have HBD := Lib.hid (below_next HBC.out hb)); (have c1 := cell_at (block_kept HBD.out HC2.out) (i := 1) rfl); (have d1 := cell_at (block_kept HBD.out HC1.out) (i := 1) rfl); clear HI1 HBC c0 d0 hb)
                      | (go_at_call 37; refine (HT3.out _ HBD.out).mono ?_; rintro e w4 ⟨rfl, hb⟩; (have HBE := Lib.hid (below_next HBD.out hb)); (have HX5 := Lib.hid (block_kept HBE.out HC2.out)); (have HY5 := Lib.hid (block_kept HBE.out HC1.out)); (have c2 := cell_at HX5.out (i := 2) rfl); (have d2 := cell_at HY5.out (i := 2) rfl); (have c3 := cell_at HX5.out (i := 3) rfl); (have d3 := cell_at HY5.out (i := 3) rfl); clear HT3 HBD c1 d1 hb))
                    go_ret
                    exact ⟨ret_bool (by rw [HSM.out, H.out, H'.out, HC.out]; simp), below_next (below_next HBR2.out HBW2.out) HBE.out⟩
                  · rw [hs2] at HT3 HC
                    clear hs2
                    by_cases hk1 : c.dflt = d.dflt
                    · have hb1 : (c.dflt != d.dflt) = false := by simp [hk1]
                      rw [decide_eq_true hk1] at HC
                      clear hk1
                      by_cases hk4 : c.costs.length = d.costs.length
                      · have hb4 : ((c.costs.length : Int) != d.costs.length) = false := by simp [hk4]
                        have HL4 := Lib.hid hk4
                        clear hk4
                        rw [hs] at HI1 HC
                        clear hs
                        go_wp2_with (first
                          | (go_at_call 38; refine (HI1.out _ HBC.out).mono ?_; rintro e w3 ⟨rfl, hb⟩; (have HBD := Lib.hid (below_next HBC.out hb)); (have c1 := cell_at (block_kept HBD.out HC2.out) (i := 1) rfl); (have d1 := cell_at (block_kept HBD.out HC1.out) (i := 1) rfl); clear HI1 HBC c0 d0 hb)
                          | (go_at_call 37; refine (HT3.out _ HBD.out).mono ?_; rintro e w4 ⟨rfl, hb⟩; (have HBE := Lib.hid (below_next HBD.out hb)); (have HX5 := Lib.hid (block_kept HBE.out HC2.out)); (have HY5 := Lib.hid (block_kept HBE.out HC1.out)); (have c2 := cell_at HX5.out (i := 2) rfl); (have d2 := cell_at HY5.out (i := 2) rfl); (have c3 := cell_at HX5.out (i := 3) rfl); (have d3 := cell_at HY5.out (i := 3) rfl); clear HT3 HBD c1 d1 hb))
                        have E4 := Lib.hid (E3.out.below (by decide) (below_next HBW2.out HBE.out))
                        have E4' := Lib.hid (E3'.out.below (by decide) (below_next HBW2.out HBE.out))
                        have HW4 := Lib.hid (below_next HBW2.out HBE.out)
                        clear c2 d2 c3 d3 hb4 hb1 E3 E3' HC1 HC2 HBE
                        go_loopg [11] c.costs.length (fun g v wr3 => SamRel w4 c.costs d.costs g v wr3)
                        case atStart => exact ⟨0, rfl, by omega, Lib.hid rfl, Below.refl _ _, rfl⟩
                        case round =>
                          obtain ⟨k3, rfl, hk3, HE, hg, hgk⟩ := hrel
                          have HGK3 := Lib.hid hgk
                          have h0 := block_kept hg HX5.out
                          have h1 := block_kept hg HY5.out
                          have c2 := cell_at h0 (i := 2) rfl
                          have d2 := cell_at h1 (i := 2) rfl
                          have HG3 := Lib.hid hg
                          clear h0 h1 hg hgk
                          by_cases hlt3 : k3 < c.costs.length
                          · have hlt3' : k3 < d.costs.length := by have := HL4.out; omega
                            obtain ⟨b3, o3, rfl, hc3⟩ := (E4.out.below (by decide) HG3.out).elems.num hlt3
                            obtain ⟨b4, o4, rfl, hc4⟩ := (E4'.out.below (by decide) HG3.out).elems.num hlt3'
                            have HE' := Lib.hid (drop_sameG (0 : Int) c.costs d.costs k3 hlt3 hlt3')
                            clear E4 E4'
                            by_cases hq : nth 0 c.costs k3 = nth 0 d.costs k3
                            · have hb : (nth 0 c.costs k3 != nth 0 d.costs k3) = false := by simp [hq]
                              rw [decide_eq_true hq] at HE'
                              clear hq
                              go_wp2
                              go_quiet (fail)
                              go_wp2
                              go_roundg (c.costs.length - (k3 + 1))
                              case rel => exact ⟨k3 + 1, by go_num, by omega, Lib.hid (by rw [HE.out, HE'.out]; simp), below_drewN HG3.out _, rfl⟩
                              case measure => have := HGK3.out; omega
                            · have hb : (nth 0 c.costs k3 != nth 0 d.costs k3) = true := by simp [hq]
                              rw [decide_eq_false hq] at HE'
                              clear hq
                              go_wp2
                              go_quiet (fail)
                              go_wp2
                              go_ret
                              exact ⟨ret_bool (by rw [HSM.out, H.out, H'.out, HC.out, HE.out, HE'.out]; simp), below_drewN (below_next (below_next HBR2.out HW4.out) HG3.out) _⟩
                          · have HE' : Hid (decide (c.costs = d.costs) = true) := Lib.hid (by rw [HE.out, List.drop_eq_nil_of_le (by omega), List.drop_eq_nil_of_le (by have := HL4.out; omega)]; rfl)
                            go_wp2
                            go_roundg (x.soft.length - (k2 + 1))
                            case rel => exact ⟨k2 + 1, by go_num, by omega, Lib.hid (by rw [H.out, H'.out, HC.out, HE'.out]; simp), below_next (below_next HG2.out HW4.out) HG3.out, rfl⟩
                            case measure => have := HGK.out; omega
                      · have hb4 : ((c.costs.length : Int) != d.costs.length) = true := by simp; omega
                        rw [decide_eq_false (p := c.costs = d.costs) (fun e => hk4 (by rw [e]))] at HC
                        clear hk4
                        rw [hs] at HI1 HC
                        clear hs
                        go_wp2_with (first
                          | (go_at_call 38; refine (HI1.out _ HBC.out).mono ?_; rintro e w3 ⟨rfl, hb⟩; (have HBD := Lib.hid (below_next HBC.out hb)); (have c1 := cell_at (block_kept HBD.out HC2.out) (i := 1) rfl); (have d1 := cell_at (block_kept HBD.out HC1.out) (i := 1) rfl); clear HI1 HBC c0 d0 hb)
                          | (go_at_call 37; refine (HT3.out _ HBD.out).mono ?_; rintro e w4 ⟨rfl, hb⟩; (have HBE := Lib.hid (below_next HBD.out hb)); (have HX5 := Lib.hid (block_kept HBE.out HC2.out)); (have HY5 := Lib.hid (block_kept HBE.out HC1.out)); (have c2 := cell_at HX5.out (i := 2) rfl); (have d2 := cell_at HY5.out (i := 2) rfl); (have c3 := cell_at HX5.out (i := 3) rfl); (have d3 := cell_at HY5.out (i := 3) rfl); clear HT3 HBD c1 d1 hb))
                        go_ret
                        exact ⟨ret_bool (by rw [HSM.out, H.out, H'.out, HC.out]; simp), below_next (below_next HBR2.out HBW2.out) HBE.out⟩
                    · have hb1 : (c.dflt != d.dflt) = true := by simp [hk1]
                      rw [decide_eq_false hk1] at HC
                      clear hk1
                      rw [hs] at HI1 HC
                      clear hs
                      go_wp2_with (first
                        | (go_at_call 38; refine (HI1.out _ HBC.out).mono ?_; rintro e w3 ⟨rfl, hb⟩; (have HBD := Lib.hid (below_next HBC.out hb)); (have c1 := cell_at (block_kept HBD.out HC2.out) (i := 1) rfl); (have d1 := cell_at (block_kept HBD.out HC1.out) (i := 1) rfl); clear HI1 HBC c0 d0 hb)
                        | (go_at_call 37; refine (HT3.out _ HBD.out).mono ?_; rintro e w4 ⟨rfl, hb⟩; (have HBE := Lib.hid (below_next HBD.out hb)); (have HX5 := Lib.hid (block_kept HBE.out HC2.out)); (have HY5 := Lib.hid (block_kept HBE.out HC1.out)); (have c2 := cell_at HX5.out (i := 2) rfl); (have d2 := cell_at HY5.out (i := 2) rfl); (have c3 := cell_at HX5.out (i := 3) rfl); (have d3 := cell_at HY5.out (i := 3) rfl); clear HT3 HBD c1 d1 hb))
                      go_ret
                      exact ⟨ret_bool (by rw [HSM.out, H.out, H'.out, HC.out]; simp), below_next (below_next HBR2.out HBW2.out) HBE.out⟩
              · go_wp2
                go_ret
                exact ⟨ret_bool (by rw [HSM.out, HQ1.out, HQ2.out, H.out, List.drop_eq_nil_of_le (by omega), List.drop_eq_nil_of_le (by have := HL3.out; omega)]; rfl), HBR2.out⟩
      · have hb3 : ((x.soft.length : Int) != y.soft.length) = true := by simp; omega
        have HL3 := Lib.hid hq3
        clear hq2 hq3
        rw [hq1] at HT
        have HQ1 := Lib.hid hq1
        clear hq1
        go_wp2_with (go_at_call 37; refine HT.out.mono ?_; rintro e w' ⟨rfl, hg⟩; (have h0 := block_kept hg HX.out); (have h1 := block_kept hg HY.out); (have HB2 := Lib.hid (below_next HB.out hg)); (have x0 := cell_at h0 (i := 0) rfl); (have x1 := cell_at h0 (i := 1) rfl); (have x2 := cell_at h0 (i := 2) rfl); (have y0 := cell_at h1 (i := 0) rfl); (have y1 := cell_at h1 (i := 1) rfl); (have y2 := cell_at h1 (i := 2) rfl); (have HX2 := Lib.hid h0); (have HY2 := Lib.hid h1); (have HS2 := Lib.hid (Nat.le_trans HS0.out hg.size)); clear h0 h1 hg HX HY HB HS0)
        go_ret
        exact ⟨ret_bool (by rw [HSM.out, decide_eq_false (p := x.soft = y.soft) (fun e => HL3.out (by rw [e]))]; simp), HB2.out⟩
    · have hb2 : ((x.hard.length : Int) != y.hard.length) = true := by simp; omega
      have HL3 := Lib.hid hq2
      clear hq2
      rw [hq1] at HT
      have HQ1 := Lib.hid hq1
      clear hq1
      go_wp2_with (go_at_call 37; refine HT.out.mono ?_; rintro e w' ⟨rfl, hg⟩; (have h0 := block_kept hg HX.out); (have h1 := block_kept hg HY.out); (have HB2 := Lib.hid (below_next HB.out hg)); (have x0 := cell_at h0 (i := 0) rfl); (have x1 := cell_at h0 (i := 1) rfl); (have x2 := cell_at h0 (i := 2) rfl); (have y0 := cell_at h1 (i := 0) rfl); (have y1 := cell_at h1 (i := 1) rfl); (have y2 := cell_at h1 (i := 2) rfl); (have HX2 := Lib.hid h0); (have HY2 := Lib.hid h1); (have HS2 := Lib.hid (Nat.le_trans HS0.out hg.size)); clear h0 h1 hg HX HY HB HS0)
      go_ret
      exact ⟨ret_bool (by rw [HSM.out, decide_eq_false (p := x.hard = y.hard) (fun e => HL3.out (by rw [e]))]; simp), HB2.out⟩
end Go.Proofs.YtgpgmmkkmoecmaaGreatDoor

/- What the printer's comma, hard and soft write. -/
namespace Go.Proofs.YtgpgmmkkmoecmaaGreatDoor
open Go.RowKit

theorem size_mk (l : List UInt8) : (ByteArray.mk l.toArray).size = l.length := by simp [ByteArray.size]
theorem data_mk (l : List UInt8) : (ByteArray.mk l.toArray).data.toList = l := by simp

set_option maxRecDepth 100000 in
theorem comma_any (b : Nat) (l : List UInt8) (i : Nat) (w : World) (hB : Bld b l w) (_ : i ≤ 140737488355328) (hlen : l.length + (commaP i).length ≤ 140737488355328) :
    Calls Tryz.prog 61 #[.pointer (some ⟨b, 0, none⟩), .int .i64 i] w fun e w' => e = .returned (.tuple #[]) ∧ Bld b (l ++ commaP i) w' ∧ Kep b w w' := by
  by_cases h : 0 < i
  · have e : commaP i = [44] := by simp [commaP, h]
    have hl : l.length + 1 ≤ 140737488355328 := by rw [e] at hlen; simpa using hlen
    have H := Lib.hid e
    have HB := Lib.hid hB
    clear e hlen hB
    go_enter Tryz.func61, Tryz.ntmps61
    go_wp2_with (go_at_call 62; refine (writeByte_any b _ 44 _ HB.out hl).mono ?_; rintro e w2 ⟨rfl, hB2, hk2⟩; have HB2 := Lib.hid hB2; have HK2 := Lib.hid hk2; clear hB2 hk2)
    go_end0
    exact ⟨rfl, by rw [H.out]; exact HB2.out, HK2.out⟩
  · have e : commaP i = [] := by simp [commaP, h]
    go_enter Tryz.func61, Tryz.ntmps61
    go_wp2
    go_end0
    exact ⟨rfl, by rw [e, List.append_nil]; exact hB, Kep.refl _ _⟩

/-- A box behind the printer that holds four cells. -/
structure Box4 (g : Nat) (t : TypeId) (u0 u1 u2 u3 : Value) (W : World) : Prop where
  block : W.heap[g]? = some (.cells #[u0, u1, u2, u3] t (0, 0))
theorem Box4.kep {g : Nat} {t : TypeId} {u0 u1 u2 u3 : Value} {b : Nat} {W W1 : World} (h : Box4 g t u0 u1 u2 u3 W) (hg : g ≠ b) (ht : t ≠ 5) (hk : Kep b W W1) : Box4 g t u0 u1 u2 u3 W1 :=
  ⟨hk.others g _ h.block (by simpa using hg) (fun _ _ e => ht (by injection e))⟩
theorem Box4.below {g : Nat} {t : TypeId} {u0 u1 u2 u3 : Value} {W W1 : World} (h : Box4 g t u0 u1 u2 u3 W) (hk : Below W.heap.size W W1) : Box4 g t u0 u1 u2 u3 W1 := ⟨block_kept hk h.block⟩
theorem Box4.cells {g : Nat} {t : TypeId} {u0 u1 u2 u3 : Value} {W : World} (h : Box4 g t u0 u1 u2 u3 W) :
    W.cell? ⟨g, 0, none⟩ = some u0 ∧ W.cell? ⟨g, 1, none⟩ = some u1 ∧ W.cell? ⟨g, 2, none⟩ = some u2 ∧ W.cell? ⟨g, 3, none⟩ = some u3 :=
  ⟨cell_at h.block (i := 0) rfl, cell_at h.block (i := 1) rfl, cell_at h.block (i := 2) rfl, cell_at h.block (i := 3) rfl⟩
/-- What is read stands while the printer writes: it lies below the printer, or in blocks that are no bytes. -/
def Stays (b : Nat) (w : World) (ok : Nat → Prop) : Prop := ∀ k, ok k → k < b ∨ ∃ c t fr, w.heap[k]? = some (.cells c t fr) ∧ t ≠ 5 ∧ k ≠ b
theorem Stays.kep {b : Nat} {w w1 : World} {ok : Nat → Prop} (h : Stays b w ok) (hk : Kep b w w1) : Stays b w1 ok := fun k ho => by
  rcases h k ho with h | ⟨c, t, fr, h, ht, hkb⟩
  · exact .inl h
  · exact .inr ⟨c, t, fr, hk.others k _ h (by simpa using hkb) (fun c' fz e => ht (by injection e)), ht, hkb⟩
theorem Stays.below {b : Nat} {w w1 : World} {ok : Nat → Prop} (h : Stays b w ok) (hk : Below w.heap.size w w1) : Stays b w1 ok := fun k ho => by
  rcases h k ho with h | ⟨c, t, fr, h, ht, hkb⟩
  · exact .inl h
  · exact .inr ⟨c, t, fr, block_kept hk h, ht, hkb⟩
theorem Stays.sl {α : Type} {d : Kd α} {b : Nat} {w w1 : World} {ok : Nat → Prop} {v : Value} {xs : List α} (hs : 0 < d.sz) (h : Stays b w ok) (hv : Sl d w ok v xs) (hk : Kep b w w1) : Sl d w1 ok v xs :=
  (hv.move hs fun k ho _ => by
    rcases h k ho with h | ⟨c, t, fr, h, ht, hkb⟩
    · exact hk.below.block k h
    · exact (hk.others k _ h (by simpa using hkb) (fun c' fz e => ht (by injection e))).trans h.symm).mono fun _ h => h.1

set_option maxRecDepth 100000 in
set_option maxHeartbeats 1000000 in
theorem hard_plain (b : Nat) (l : List UInt8) (vs vr va : Value) (c : Con) (ok : Nat → Prop) (w : World) (hB : Bld b l w) (hE : Env w) (hb8 : 8 ≤ b) (hS : Stays b w ok) (h1 : Sl (Kd.int .i64) w ok vs c.scope)
    (hq1 : 2 < c.kind) (hq2 : c.kind < 6) (hf : Fits c.scope) (hlen : l.length + (hardP c).length ≤ 140737488355328) :
    Calls Tryz.prog 31 #[.pointer (some ⟨b, 0, none⟩), .agg #[.int .i64 c.kind, vs, vr, va]] w fun e w' => e = .returned (.tuple #[]) ∧ Bld b (l ++ hardP c) w' ∧ Kep b w w' := by
  have hP : hardP c = nth [] wordsT c.kind.toNat ++ numsP c.scope := by
    unfold hardP; rw [if_neg (by omega), if_pos hq1, List.append_nil]
  have hbw : b < w.heap.size := by obtain ⟨_, _, _, h, _⟩ := hB; exact lt_of_block h
  have h1' := h1
  obtain ⟨As, cps, rfl, hs1, hs2, _⟩ := h1
  have HB0 := below_alloc1 w (.cells #[.int .i64 c.kind, .slice As c.scope.length cps, vr, va] 34)
  have hbox0 : Box4 w.heap.size 34 (.int .i64 c.kind) (.slice As c.scope.length cps) vr va (w.alloc (.cells #[.int .i64 c.kind, .slice As c.scope.length cps, vr, va] 34)) := ⟨heap_alloc_new w _⟩
  have hword := (hE.below HB0 hE.size).word c.kind.toNat (by omega)
  have hk0 : 0 ≤ c.kind := by omega
  have hk7 : c.kind < 7 := by omega
  have hkne : (c.kind == 6) = false := by simp; omega
  have hl : l.length + (nth [] wordsT c.kind.toNat).length + (numsP c.scope).length ≤ 140737488355328 := by rw [hP, List.length_append] at hlen; omega
  have HP := Lib.hid hP
  have hdr := Below.drew (Below.refl (w.alloc (.cells #[.int .i64 c.kind, .slice As c.scope.length cps, vr, va] 34)).heap.size (w.alloc (.cells #[.int .i64 c.kind, .slice As c.scope.length cps, vr, va] 34)))
  have HW := Lib.hid (writeString_any b l ⟨(nth [] wordsT c.kind.toNat).toArray⟩ _ ((hB.move HB0).move hdr) (by rw [size_mk]; omega))
  have HS0 := Lib.hid (hS.below HB0)
  have H1 := Lib.hid (h1'.below (by decide) HB0)
  have HE0 := Lib.hid (hE.below HB0 hE.size)
  have HK0 : Hid (Kep b w (w.alloc (.cells #[.int .i64 c.kind, .slice As c.scope.length cps, vr, va] 34))) := Lib.hid ⟨(Below.refl b w).alloc (by omega) _, (Lib.OthersKept.refl _ _ w).alloc _⟩
  have Hf := Lib.hid hf
  have Hbox := Lib.hid hbox0
  have hne : w.heap.size ≠ b := by omega
  have Hne := Lib.hid hne
  clear hP hlen hB hS h1' hE hf HB0 hdr hbox0 hne
  go_enter Tryz.func31, Tryz.ntmps31
  go_wp2
  go_region_with (first
    | (go_at_call 29; refine HW.out.mono ?_; rintro e W2 ⟨rfl, hB2, hk2⟩; (have HB2 := Lib.hid hB2); (have HK2 := Lib.hid (Kep.trans ⟨Below.drew (Below.refl b _), (Lib.OthersKept.refl _ _ _).drew⟩ hk2)); (obtain ⟨c0, c1, c2, c3⟩ := (Hbox.out.kep Hne.out (by decide) HK2.out).cells); clear hB2 hk2))
  go_wp2_with (first
    | (go_at_call 30; refine (numbers_any b _ _ c.scope ok _ HB2.out (HE0.out.below HK2.out.below hb8) hb8 (HS0.out.sl (by decide) H1.out HK2.out) (HS0.out.kep HK2.out) Hf.out (by rw [List.length_append]; omega)).mono ?_; rintro e W3 ⟨rfl, hB3, hk3⟩; (have HB3 := Lib.hid hB3); (have HK3 := Lib.hid (HK2.out.trans hk3)); (obtain ⟨d0, d1, d2, d3⟩ := (Hbox.out.kep Hne.out (by decide) HK3.out).cells); clear hB3 hk3))
  refine bodyPost_ret (results_none rfl _ _ _) rfl ?_
  exact ⟨rfl, by rw [HP.out, ← List.append_assoc]; exact HB3.out, HK0.out.trans HK3.out⟩
end Go.Proofs.YtgpgmmkkmoecmaaGreatDoor

/- What the printer's hard writes of a table, and of a sum. -/
namespace Go.Proofs.YtgpgmmkkmoecmaaGreatDoor
open Go.RowKit

set_option maxRecDepth 100000 in
set_option maxHeartbeats 1000000 in
theorem hard_table (b : Nat) (l : List UInt8) (vs vr va : Value) (c : Con) (ok : Nat → Prop) (w : World) (hB : Bld b l w) (hE : Env w) (hb8 : 8 ≤ b) (hS : Stays b w ok) (h1 : Sl (Kd.int .i64) w ok vs c.scope)
    (hq1 : 1 ≤ c.kind) (hq2 : c.kind ≤ 2) (h2 : Sl kRow w ok vr c.rows) (hf : Fits c.scope) (hr : ∀ k, k < c.rows.length → Fits (nth [] c.rows k)) (hrl : c.rows.length ≤ 140737488355328) (hlen : l.length + (hardP c).length ≤ 140737488355328) :
    Calls Tryz.prog 31 #[.pointer (some ⟨b, 0, none⟩), .agg #[.int .i64 c.kind, vs, vr, va]] w fun e w' => e = .returned (.tuple #[]) ∧ Bld b (l ++ hardP c) w' ∧ Kep b w w' := by
  have hP : hardP c = nth [] wordsT c.kind.toNat ++ (numsP c.scope ++ ([58] ++ rowsP 0 c.rows)) := by
    unfold hardP; rw [if_neg (by omega), if_neg (by omega)]
  have hbw : b < w.heap.size := by obtain ⟨_, _, _, h, _⟩ := hB; exact lt_of_block h
  have h1' := h1
  obtain ⟨As, cps, rfl, hs1, hs2, _⟩ := h1
  have h2' := h2
  obtain ⟨Ar, cpr, rfl, hr1, hr2, _⟩ := h2
  have HB0 := below_alloc1 w (.cells #[.int .i64 c.kind, .slice As c.scope.length cps, .slice Ar c.rows.length cpr, va] 34)
  have hbox0 : Box4 w.heap.size 34 (.int .i64 c.kind) (.slice As c.scope.length cps) (.slice Ar c.rows.length cpr) va (w.alloc (.cells #[.int .i64 c.kind, .slice As c.scope.length cps, .slice Ar c.rows.length cpr, va] 34)) := ⟨heap_alloc_new w _⟩
  have hword := (hE.below HB0 hE.size).word c.kind.toNat (by omega)
  have hk0 : 0 ≤ c.kind := by omega
  have hk7 : c.kind < 7 := by omega
  have hkne : (c.kind == 6) = false := by simp; omega
  have hl : l.length + (nth [] wordsT c.kind.toNat).length + (numsP c.scope).length + 1 + (rowsP 0 c.rows).length ≤ 140737488355328 := by rw [hP, List.length_append, List.length_append, List.length_append] at hlen; simp at hlen; omega
  have HP := Lib.hid hP
  have hdr := Below.drew (Below.refl (w.alloc (.cells #[.int .i64 c.kind, .slice As c.scope.length cps, .slice Ar c.rows.length cpr, va] 34)).heap.size (w.alloc (.cells #[.int .i64 c.kind, .slice As c.scope.length cps, .slice Ar c.rows.length cpr, va] 34)))
  have HW := Lib.hid (writeString_any b l ⟨(nth [] wordsT c.kind.toNat).toArray⟩ _ ((hB.move HB0).move hdr) (by rw [size_mk]; omega))
  have HS0 := Lib.hid (hS.below HB0)
  have H1 := Lib.hid (h1'.below (by decide) HB0)
  have H2 := Lib.hid (h2'.below (by decide) HB0)
  have Hr := Lib.hid hr
  have HE0 := Lib.hid (hE.below HB0 hE.size)
  have HK0 : Hid (Kep b w (w.alloc (.cells #[.int .i64 c.kind, .slice As c.scope.length cps, .slice Ar c.rows.length cpr, va] 34))) := Lib.hid ⟨(Below.refl b w).alloc (by omega) _, (Lib.OthersKept.refl _ _ w).alloc _⟩
  have Hf := Lib.hid hf
  have Hbox := Lib.hid hbox0
  have hne : w.heap.size ≠ b := by omega
  have Hne := Lib.hid hne
  clear hP hlen hB hS h1' h2' hr hE hf HB0 hdr hbox0 hne
  go_enter Tryz.func31, Tryz.ntmps31
  go_wp2
  go_region_with (first
    | (go_at_call 29; refine HW.out.mono ?_; rintro e W2 ⟨rfl, hB2, hk2⟩; (have HB2 := Lib.hid hB2); (have HK2 := Lib.hid (Kep.trans ⟨Below.drew (Below.refl b _), (Lib.OthersKept.refl _ _ _).drew⟩ hk2)); (obtain ⟨c0, c1, c2, c3⟩ := (Hbox.out.kep Hne.out (by decide) HK2.out).cells); clear hB2 hk2))
  go_wp2_with (first
    | (go_at_call 30; refine (numbers_any b _ _ c.scope ok _ HB2.out (HE0.out.below HK2.out.below hb8) hb8 (HS0.out.sl (by decide) H1.out HK2.out) (HS0.out.kep HK2.out) Hf.out (by rw [List.length_append]; omega)).mono ?_; rintro e W3 ⟨rfl, hB3, hk3⟩; (have HB3 := Lib.hid hB3); (have HK3 := Lib.hid (HK2.out.trans hk3)); (obtain ⟨d0, d1, d2, d3⟩ := (Hbox.out.kep Hne.out (by decide) HK3.out).cells); clear hB3 hk3)
    | (go_at_call 62; refine (writeByte_any b _ 58 _ HB3.out (by rw [List.length_append, List.length_append]; omega)).mono ?_; rintro e W4 ⟨rfl, hB4, hk4⟩; (have HB4 := Lib.hid hB4); (have HK4 := Lib.hid (HK3.out.trans hk4)); (obtain ⟨e0, e1, e2, e3⟩ := (Hbox.out.kep Hne.out (by decide) HK4.out).cells); clear hB4 hk4))
  clear HW c0 c1 c2 c3 d0 d1 d2 d3
  go_loopw [79] (fun i wr => ∃ k : Nat, i = .int .i64 k ∧ k ≤ c.rows.length ∧ Hid (Bld b (l ++ (nth [] wordsT c.kind.toNat) ++ numsP c.scope ++ [58] ++ rowsP 0 (c.rows.take k)) wr) ∧ Hid (Kep b (w.alloc (.cells #[.int .i64 c.kind, .slice As c.scope.length cps, .slice Ar c.rows.length cpr, va] 34)) wr)) (fun i _ => c.rows.length - (intOf i).toNat)
  case atStart => exact ⟨0, rfl, by omega, Lib.hid (by simpa [rowsP] using HB4.out), HK4⟩
  case round =>
    obtain ⟨k, rfl, hk, HBk, HKk⟩ := hrel
    clear HB2 HB3 HB4 HK2 HK3 HK4 e0 e1 e2 e3
    by_cases hlt : k < c.rows.length
    · obtain ⟨b1, o1, vt, rfl, g1, ht⟩ := (Sl.elems (HS0.out.sl (by decide) H2.out HKk.out)).row hlt
      have HT := Lib.hid ht
      obtain ⟨At, ct, rfl, ht1, ht2, _⟩ := ht
      have hst := rowsP_step c.rows k hlt
      have hle := rowsP_take_le c.rows (k + 1)
      have hb2 : (rowsP 0 (c.rows.take k)).length + (commaP k).length + (numsP (nth [] c.rows k)).length ≤ (rowsP 0 c.rows).length := by
        rw [hst, List.length_append, List.length_append] at hle; omega
      have Hst := Lib.hid hst
      clear hst hle
      go_wp2_with (first
        | (go_at_call 61; refine (comma_any b _ k _ HBk.out (by omega) (by simp only [List.length_append, List.length_cons, List.length_nil]; omega)).mono ?_; rintro e W5 ⟨rfl, hB5, hk5⟩; (have HB5 := Lib.hid hB5); (have HK5 := Lib.hid (HKk.out.trans hk5)); (have HKt := Lib.hid hk5); clear hB5 hk5)
        | (go_at_call 30; refine (numbers_any b _ _ (nth [] c.rows k) ok _ HB5.out (HE0.out.below HK5.out.below hb8) hb8 ((HS0.out.kep HKk.out).sl (by decide) HT.out HKt.out) (HS0.out.kep HK5.out) (Hr.out k hlt) (by simp only [List.length_append, List.length_cons, List.length_nil]; omega)).mono ?_; rintro e W6 ⟨rfl, hB6, hk6⟩; (have HB6 := Lib.hid hB6); (have HK6 := Lib.hid (HK5.out.trans hk6)); clear hB6 hk6))
      go_roundw
      case rel => exact ⟨k + 1, by go_num, by omega, Lib.hid (by rw [Hst.out]; simpa only [List.append_assoc] using HB6.out), HK6⟩
      case measure => simp [intOf]; omega
    · go_wp2
      go_end0
      have e : c.rows.take k = c.rows := List.take_of_length_le (by omega)
      rw [e] at HBk
      exact ⟨rfl, by rw [HP.out]; simpa only [List.append_assoc] using HBk.out, HK0.out.trans HKk.out⟩

end Go.Proofs.YtgpgmmkkmoecmaaGreatDoor

/- What the printer's hard writes of a sum. -/
namespace Go.Proofs.YtgpgmmkkmoecmaaGreatDoor
open Go.RowKit

theorem lit_two (W : World) (a v : Int) : Sl (Kd.int .i64) (W.alloc (.cells #[.int .i64 a, .int .i64 v] 3)) (· = W.heap.size) (.slice (some ⟨W.heap.size, 0, none⟩) 2 2) [a, v] := by
  refine ⟨_, _, rfl, Nat.le_refl _, by simp, fun j x hx => ⟨W.heap.size, 0, [.int .i64 x], rfl, rfl, rfl, fun i u hu => ?_⟩⟩
  have hc : (W.alloc (.cells #[.int .i64 a, .int .i64 v] 3)).heap[W.heap.size]? = some (.cells #[.int .i64 a, .int .i64 v] 3 (0, 0)) := heap_alloc_new W _
  match i, hu with
  | 0, hu =>
    simp at hu; subst hu
    match j, hx with
    | 0, hx => simp at hx; subst hx; exact cell_at hc (i := 0) rfl
    | 1, hx => simp at hx; subst hx; exact cell_at hc (i := 1) rfl
theorem lit_one (W : World) (a : Int) : Sl (Kd.int .i64) (W.alloc (.cells #[.int .i64 a] 3)) (· = W.heap.size) (.slice (some ⟨W.heap.size, 0, none⟩) 1 1) [a] := by
  refine ⟨_, _, rfl, Nat.le_refl _, by simp, fun j x hx => ⟨W.heap.size, 0, [.int .i64 x], rfl, rfl, rfl, fun i u hu => ?_⟩⟩
  have hc : (W.alloc (.cells #[.int .i64 a] 3)).heap[W.heap.size]? = some (.cells #[.int .i64 a] 3 (0, 0)) := heap_alloc_new W _
  match i, hu with
  | 0, hu =>
    simp at hu; subst hu
    match j, hx with
    | 0, hx => simp at hx; subst hx; exact cell_at hc (i := 0) rfl
theorem stays_lit {b : Nat} (W : World) (cs : Array Value) (hb : b < W.heap.size) : Stays b (W.alloc (.cells cs 3)) (· = W.heap.size) := by
  rintro k rfl
  exact .inr ⟨cs, 3, (0, 0), heap_alloc_new W _, by decide, by omega⟩
theorem kep_alloc {b : Nat} (W : World) (o : Obj) (hb : b ≤ W.heap.size) : Kep b W (W.alloc o) := ⟨(Below.refl b W).alloc hb o, (Lib.OthersKept.refl _ _ W).alloc o⟩
theorem Bld.lt {b : Nat} {l : List UInt8} {w : World} (h : Bld b l w) : b < w.heap.size := by obtain ⟨_, _, _, h, _⟩ := h; exact lt_of_block h

set_option maxRecDepth 100000 in
set_option maxHeartbeats 1000000 in
theorem hard_linear (b : Nat) (l : List UInt8) (vs vr va : Value) (c : Con) (ok : Nat → Prop) (w : World) (hB : Bld b l w) (hE : Env w) (hb8 : 8 ≤ b) (hS : Stays b w ok) (h1 : Sl (Kd.int .i64) w ok vs c.scope)
    (hq : c.kind = 6) (h3 : Sl (Kd.int .i64) w ok va c.args) (hla : c.args.length = c.scope.length + 2) (hh0 : 0 ≤ nth 0 c.args c.scope.length) (hh2 : nth 0 c.args c.scope.length ≤ 2) (hf : Fits c.scope) (hr : Fits c.args) (hlen : l.length + (hardP c).length ≤ 140737488355328) :
    Calls Tryz.prog 31 #[.pointer (some ⟨b, 0, none⟩), .agg #[.int .i64 c.kind, vs, vr, va]] w fun e w' => e = .returned (.tuple #[]) ∧ Bld b (l ++ hardP c) w' ∧ Kep b w w' := by
  have hP : hardP c = nth [] wordsT 6 ++ (linP 0 c.args c.scope ++ ([58, 32] ++ nth [] howsT (nth 0 c.args c.scope.length).toNat) ++ numsP [nth 0 c.args (c.scope.length + 1)]) := by
    unfold hardP; rw [if_pos hq, hq]; rfl
  have hbw : b < w.heap.size := by obtain ⟨_, _, _, h, _⟩ := hB; exact lt_of_block h
  have h1' := h1
  obtain ⟨As, cps, rfl, hs1, hs2, _⟩ := h1
  have h3' := h3
  obtain ⟨Aa, cpa, rfl, ha1, ha2, _⟩ := h3
  rw [hq]
  have HB0 := below_alloc1 w (.cells #[.int .i64 6, .slice As c.scope.length cps, vr, .slice Aa c.args.length cpa] 34)
  have hbox0 : Box4 w.heap.size 34 (.int .i64 6) (.slice As c.scope.length cps) vr (.slice Aa c.args.length cpa) (w.alloc (.cells #[.int .i64 6, .slice As c.scope.length cps, vr, .slice Aa c.args.length cpa] 34)) := ⟨heap_alloc_new w _⟩
  have hword := (hE.below HB0 hE.size).word 6 (by omega)
  have hl : l.length + (nth [] wordsT 6).length + (linP 0 c.args c.scope).length + 2 + (nth [] howsT (nth 0 c.args c.scope.length).toNat).length + (numsP [nth 0 c.args (c.scope.length + 1)]).length ≤ 140737488355328 := by rw [hP, List.length_append, List.length_append, List.length_append, List.length_append] at hlen; simp only [List.length_cons, List.length_nil] at hlen; omega
  have HP := Lib.hid hP
  have hdr := Below.drew (Below.refl (w.alloc (.cells #[.int .i64 6, .slice As c.scope.length cps, vr, .slice Aa c.args.length cpa] 34)).heap.size (w.alloc (.cells #[.int .i64 6, .slice As c.scope.length cps, vr, .slice Aa c.args.length cpa] 34)))
  have HW := Lib.hid (writeString_any b l ⟨(nth [] wordsT 6).toArray⟩ _ ((hB.move HB0).move hdr) (by rw [size_mk]; omega))
  have HS0 := Lib.hid (hS.below HB0)
  have H1 := Lib.hid (h1'.below (by decide) HB0)
  have H3 := Lib.hid (h3'.below (by decide) HB0)
  have Hr := Lib.hid hr
  have hla1 : c.scope.length + 1 < c.args.length := by omega
  have HE0 := Lib.hid (hE.below HB0 hE.size)
  have HK0 : Hid (Kep b w (w.alloc (.cells #[.int .i64 6, .slice As c.scope.length cps, vr, .slice Aa c.args.length cpa] 34))) := Lib.hid ⟨(Below.refl b w).alloc (by omega) _, (Lib.OthersKept.refl _ _ w).alloc _⟩
  have Hf := Lib.hid hf
  have Hbox := Lib.hid hbox0
  have hne : w.heap.size ≠ b := by omega
  have Hne := Lib.hid hne
  clear hP hlen hB hS h1' h3' hr hla hq hE hf HB0 hdr hbox0 hne
  go_enter Tryz.func31, Tryz.ntmps31
  go_wp2
  go_region_with (first
    | (go_at_call 29; refine HW.out.mono ?_; rintro e W2 ⟨rfl, hB2, hk2⟩; (have HB2 := Lib.hid hB2); (have HK2 := Lib.hid (Kep.trans ⟨Below.drew (Below.refl b _), (Lib.OthersKept.refl _ _ _).drew⟩ hk2)); (obtain ⟨c0, c1, c2, c3⟩ := (Hbox.out.kep Hne.out (by decide) HK2.out).cells); clear hB2 hk2))
  go_wp2
  clear HW c0 c1 c2 c3
  go_loopw [26] (fun i wr => ∃ k : Nat, i = .int .i64 k ∧ k ≤ c.scope.length ∧ Hid (Bld b (l ++ nth [] wordsT 6 ++ linP 0 (c.args.take k) (c.scope.take k)) wr) ∧ Hid (Kep b (w.alloc (.cells #[.int .i64 6, .slice As c.scope.length cps, vr, .slice Aa c.args.length cpa] 34)) wr)) (fun i _ => c.scope.length - (intOf i).toNat)
  case atStart => exact ⟨0, rfl, by omega, Lib.hid (by simpa [linP] using HB2.out), HK2⟩
  case round =>
    obtain ⟨k, rfl, hk, HBk, HKk⟩ := hrel
    clear HB2 HK2
    obtain ⟨e0, e1, e2, e3⟩ := (Hbox.out.kep Hne.out (by decide) HKk.out).cells
    have hwr := Lib.hid HBk.out.lt
    by_cases hlt : k < c.scope.length
    · obtain ⟨b1, o1, rfl, g1⟩ := (Sl.elems (HS0.out.sl (by decide) H1.out HKk.out)).num hlt
      have hst := linP_step c.args c.scope k hlt (by omega)
      have hle := linP_take_le c.args c.scope (k + 1) (by omega) (by omega)
      have hb2 : (linP 0 (c.args.take k) (c.scope.take k)).length + (commaP k).length + (numsP [nth 0 c.args k, nth 0 c.scope k]).length ≤ (linP 0 c.args c.scope).length := by
        rw [hst, List.length_append, List.length_append] at hle; omega
      have Hst := Lib.hid hst
      have hft := Lib.hid (fits_two (Hr.out k (by omega)) (Hf.out k hlt))
      clear hst hle
      go_wp2_with (first
        | (go_at_call 61; refine (comma_any b _ k _ HBk.out (by omega) (by simp only [List.length_append]; omega)).mono ?_; rintro e W5 ⟨rfl, hB5, hk5⟩; (have HB5 := Lib.hid hB5); (have HK5 := Lib.hid (HKk.out.trans hk5)); (have hlt5 := Lib.hid hB5.lt); (obtain ⟨f0, f1, f2, f3⟩ := (Hbox.out.kep Hne.out (by decide) HK5.out).cells); (obtain ⟨b5, o5, he5, g5⟩ := (Sl.elems (HS0.out.sl (by decide) H3.out HK5.out)).num (j := k) (by omega)); subst he5; clear hB5 hk5 e0 e1 e2 e3)
        | (go_at_call 30; refine (numbers_any b _ _ [nth 0 c.args k, nth 0 c.scope k] (· = W5.heap.size) _ (HB5.out.move (below_alloc1 _ _)) ((HE0.out.below HK5.out.below hb8).below (below_alloc1 _ _) (by have := (HE0.out.below HK5.out.below hb8).size; exact this)) hb8 (lit_two W5 _ _) (stays_lit W5 _ hlt5.out) hft.out (by simp only [List.length_append]; omega)).mono ?_; rintro e W6 ⟨rfl, hB6, hk6⟩; (have HB6 := Lib.hid hB6); (have HK6 := Lib.hid (HK5.out.trans ((kep_alloc W5 _ (Nat.le_of_lt hlt5.out)).trans hk6))); clear hB6 hk6))
      go_roundw
      case rel => exact ⟨k + 1, by go_num, by omega, Lib.hid (by rw [Hst.out]; simpa only [List.append_assoc] using HB6.out), HK6⟩
      case measure => simp [intOf]; omega
    · have ek : k = c.scope.length := by omega
      have e' : linP 0 (c.args.take k) (c.scope.take k) = linP 0 c.args c.scope := by rw [ek, List.take_length, linP_all]
      rw [e'] at HBk
      clear ek e'
      obtain ⟨ba, oa, hea, ga⟩ := (Sl.elems (HS0.out.sl (by decide) H3.out HKk.out)).num (j := c.scope.length) (by omega)
      subst hea
      have hE1 := HE0.out.below HKk.out.below hb8
      have hhow := hE1.how (nth 0 c.args c.scope.length).toNat (by omega)
      have hq3 : nth 0 c.args c.scope.length < 3 := by omega
      have hlc : c.scope.length < c.args.length := by omega
      have hsh : (nth [] howsT (nth 0 c.args c.scope.length).toNat).length ≤ 2 := by
        have : ∀ k : Nat, k < 3 → (nth [] howsT k).length ≤ 2 := by decide
        exact this _ (by omega)
      have hdt : Hid ((ByteArray.mk #[58, 32] ++ ByteArray.mk (nth [] howsT (nth 0 c.args c.scope.length).toNat).toArray).data.toList = [58, 32] ++ nth [] howsT (nth 0 c.args c.scope.length).toNat) := Lib.hid (by simp)
      have hsz : Hid ((ByteArray.mk #[58, 32] ++ ByteArray.mk (nth [] howsT (nth 0 c.args c.scope.length).toNat).toArray).size = 2 + (nth [] howsT (nth 0 c.args c.scope.length).toNat).length) := Lib.hid (by rw [ByteArray.size_append, size_mk]; rfl)
      have HE1 := Lib.hid hE1
      have HWk := Lib.hid (writeString_any b _ (ByteArray.mk #[58, 32] ++ ByteArray.mk (nth [] howsT (nth 0 c.args c.scope.length).toNat).toArray) _ (HBk.out.move (Below.drew (Below.refl wr.heap.size wr))) (by rw [hsz.out]; simp only [List.length_append]; omega))
      clear hE1
      go_wp2
      go_region_with (first
        | (go_at_call 29; refine HWk.out.mono ?_; rintro e W7 ⟨rfl, hB7, hk7⟩; (rw [hdt.out] at hB7); (have HB7 := Lib.hid hB7); (have HK7 := Lib.hid (HKk.out.trans (Kep.trans ⟨Below.drew (Below.refl b _), (Lib.OthersKept.refl _ _ _).drew⟩ hk7))); (obtain ⟨f0, f1, f2, f3⟩ := (Hbox.out.kep Hne.out (by decide) HK7.out).cells); (have hlt7 := Lib.hid hB7.lt); (obtain ⟨b8, o8, he8, g8⟩ := (Sl.elems (HS0.out.sl (by decide) H3.out HK7.out)).num (j := c.scope.length + 1) (by omega)); (injection he8 with he8); (injection he8 with he81 he82); subst he81 he82; clear hB7 hk7))
      have hs0 : IntKind.i64.wrap ((c.scope.length:Int) + 1) = (c.scope.length:Int) + 1 := IntWalk.i64_in _ (by omega)
      have hs1 : ((c.scope.length:Int) + 1).toNat = c.scope.length + 1 := by omega
      have hft := Lib.hid (fits_one (Hr.out (c.scope.length + 1) (by omega)))
      clear HWk HBk HKk ga hhow e0 e1 e2 e3
      go_wp2_with (first
        | (go_at_call 30; refine (numbers_any b _ _ [nth 0 c.args (c.scope.length + 1)] (· = W7.heap.size) _ (HB7.out.move (below_alloc1 _ _)) ((HE0.out.below HK7.out.below hb8).below (below_alloc1 _ _) (by have := (HE0.out.below HK7.out.below hb8).size; exact this)) hb8 (lit_one W7 _) (stays_lit W7 _ hlt7.out) hft.out (by simp only [List.length_append, List.length_cons, List.length_nil]; omega)).mono ?_; rintro e W8 ⟨rfl, hB8, hk8⟩; (have HB8 := Lib.hid hB8); (have HK8 := Lib.hid (HK7.out.trans ((kep_alloc W7 _ (Nat.le_of_lt hlt7.out)).trans hk8))); clear hB8 hk8))
      refine bodyPost_ret (results_none rfl _ _ _) rfl ?_
      exact ⟨rfl, by rw [HP.out]; simpa only [List.append_assoc] using HB8.out, HK0.out.trans HK8.out⟩

end Go.Proofs.YtgpgmmkkmoecmaaGreatDoor

/- What the printer's soft writes. -/
namespace Go.Proofs.YtgpgmmkkmoecmaaGreatDoor
open Go.RowKit

set_option maxRecDepth 100000 in
set_option maxHeartbeats 1000000 in
theorem softw_any (b : Nat) (l : List UInt8) (vs vr vc : Value) (s : Sft) (ok : Nat → Prop) (w : World) (hB : Bld b l w) (hE : Env w) (hb8 : 8 ≤ b) (hS : Stays b w ok) (h1 : Sl (Kd.int .i64) w ok vs s.scope) (h2 : Sl kRow w ok vr s.rows) (h3 : Sl (Kd.int .i64) w ok vc s.costs)
    (hlc : s.rows.length = s.costs.length) (hf : Fits s.scope) (hr : ∀ k, k < s.rows.length → Fits (nth [] s.rows k)) (hcf : Fits s.costs) (hd : Fit s.dflt) (hlen : l.length + (softP s).length ≤ 140737488355328) :
    Calls Tryz.prog 32 #[.pointer (some ⟨b, 0, none⟩), .agg #[vs, vr, vc, .int .i64 s.dflt]] w fun e w' => e = .returned (.tuple #[]) ∧ Bld b (l ++ softP s) w' ∧ Kep b w w' := by
  have hP : softP s = softT ++ (numsP s.scope ++ ([58] ++ (numsP [s.dflt] ++ costsP s.rows s.costs))) := by unfold softP; simp only [List.append_assoc]
  have hbw : b < w.heap.size := hB.lt
  have h1' := h1
  obtain ⟨As, cps, rfl, hs1, hs2, _⟩ := h1
  have h2' := h2
  obtain ⟨Ar, cpr, rfl, hr1, hr2, _⟩ := h2
  have h3' := h3
  obtain ⟨Ac, cpc, rfl, hc1, hc2, _⟩ := h3
  have HB0 := below_alloc1 w (.cells #[.slice As s.scope.length cps, .slice Ar s.rows.length cpr, .slice Ac s.costs.length cpc, .int .i64 s.dflt] 37)
  have hbox0 : Box4 w.heap.size 37 (.slice As s.scope.length cps) (.slice Ar s.rows.length cpr) (.slice Ac s.costs.length cpc) (.int .i64 s.dflt) (w.alloc (.cells #[.slice As s.scope.length cps, .slice Ar s.rows.length cpr, .slice Ac s.costs.length cpc, .int .i64 s.dflt] 37)) := ⟨heap_alloc_new w _⟩
  have hl : l.length + 4 + (numsP s.scope).length + 1 + (numsP [s.dflt]).length + (costsP s.rows s.costs).length ≤ 140737488355328 := by
    rw [hP, List.length_append, List.length_append, List.length_append, List.length_append] at hlen
    simp only [softT, List.length_cons, List.length_nil] at hlen; omega
  have hsl : softT.length = 4 := rfl
  have HP := Lib.hid hP
  have HW := Lib.hid (writeString_any b l ⟨softT.toArray⟩ _ (hB.move HB0) (by rw [size_mk]; omega))
  have HS0 := Lib.hid (hS.below HB0)
  have H1 := Lib.hid (h1'.below (by decide) HB0)
  have H2 := Lib.hid (h2'.below (by decide) HB0)
  have H3 := Lib.hid (h3'.below (by decide) HB0)
  have HE0 := Lib.hid (hE.below HB0 hE.size)
  have HK0 := Lib.hid (kep_alloc (b := b) w (.cells #[.slice As s.scope.length cps, .slice Ar s.rows.length cpr, .slice Ac s.costs.length cpc, .int .i64 s.dflt] 37) (by omega))
  have Hf := Lib.hid hf
  have Hr := Lib.hid hr
  have Hcf := Lib.hid hcf
  have Hd := Lib.hid (fits_one hd)
  have Hlc := Lib.hid hlc
  have hlc1 : s.rows.length ≤ s.costs.length := by omega
  have Hsl := Lib.hid hsl
  have Hbox := Lib.hid hbox0
  have hne : w.heap.size ≠ b := by omega
  have Hne := Lib.hid hne
  clear hP hlen hB hS h1' h2' h3' hE hf hr hcf hd hlc hsl HB0 hbox0 hne
  go_enter Tryz.func32, Tryz.ntmps32
  go_wp2_with (first
    | (go_at_call 29; refine HW.out.mono ?_; rintro e W2 ⟨rfl, hB2, hk2⟩; (have HB2 := Lib.hid hB2); (have HK2 := Lib.hid hk2); (obtain ⟨c0, c1, c2, c3⟩ := (Hbox.out.kep Hne.out (by decide) HK2.out).cells); clear hB2 hk2))
  refine (numbers_any b _ _ s.scope ok _ HB2.out (HE0.out.below HK2.out.below hb8) hb8 (HS0.out.sl (by decide) H1.out HK2.out) (HS0.out.kep HK2.out) Hf.out (by simp only [List.length_append, Hsl.out]; omega)).mono ?_
  rintro e W3 ⟨rfl, hB3, hk3⟩
  have HB3 := Lib.hid hB3
  have HK3 := Lib.hid (HK2.out.trans hk3)
  obtain ⟨d0, d1, d2, d3⟩ := (Hbox.out.kep Hne.out (by decide) HK3.out).cells
  clear hB3 hk3 HB2 HK2 c0 c1 c2 c3 HW
  go_wp2_with fail
  refine (writeByte_any b _ 58 _ HB3.out (by simp only [List.length_append, Hsl.out]; omega)).mono ?_
  rintro e W4 ⟨rfl, hB4, hk4⟩
  have HB4 := Lib.hid hB4
  have HK4 := Lib.hid (HK3.out.trans hk4)
  have hlt4 := Lib.hid hB4.lt
  obtain ⟨c0, c1, c2, c3⟩ := (Hbox.out.kep Hne.out (by decide) HK4.out).cells
  clear hB4 hk4 HB3 HK3 d0 d1 d2 d3
  go_wp2_with fail
  refine (numbers_any b _ _ [s.dflt] (· = W4.heap.size) _ (HB4.out.move (below_alloc1 _ _)) ((HE0.out.below HK4.out.below hb8).below (below_alloc1 _ _) (HE0.out.below HK4.out.below hb8).size) hb8 (lit_one W4 _) (stays_lit W4 _ hlt4.out) Hd.out (by simp only [List.length_append, List.length_cons, List.length_nil, Hsl.out]; omega)).mono ?_
  rintro e W5 ⟨rfl, hB5, hk5⟩
  have HB5 := Lib.hid hB5
  have HK5 := Lib.hid (HK4.out.trans ((kep_alloc W4 _ (Nat.le_of_lt hlt4.out)).trans hk5))
  obtain ⟨d0, d1, d2, d3⟩ := (Hbox.out.kep Hne.out (by decide) HK5.out).cells
  clear hB5 hk5 HB4 HK4 c0 c1 c2 c3
  go_wp2
  clear d0 d1 d2 d3
  go_loopw [26] (fun i wr => ∃ k : Nat, i = .int .i64 k ∧ k ≤ s.rows.length ∧ Hid (Bld b (l ++ softT ++ numsP s.scope ++ [58] ++ numsP [s.dflt] ++ costsP (s.rows.take k) (s.costs.take k)) wr) ∧ Hid (Kep b (w.alloc (.cells #[.slice As s.scope.length cps, .slice Ar s.rows.length cpr, .slice Ac s.costs.length cpc, .int .i64 s.dflt] 37)) wr)) (fun i _ => s.rows.length - (intOf i).toNat)
  case atStart => exact ⟨0, rfl, by omega, Lib.hid (by simpa [costsP] using HB5.out), HK5⟩
  case round =>
    obtain ⟨k, rfl, hk, HBk, HKk⟩ := hrel
    clear HB5 HK5
    by_cases hlt : k < s.rows.length
    · obtain ⟨b1, o1, vt, rfl, g1, ht⟩ := (Sl.elems (HS0.out.sl (by decide) H2.out HKk.out)).row hlt
      have HT := Lib.hid ht
      obtain ⟨At, ct, rfl, ht1, ht2, _⟩ := ht
      have hst := costsP_step s.rows s.costs k hlt Hlc.out
      have hle := costsP_take_le s.rows s.costs (k + 1) Hlc.out
      have hb2 : (costsP (s.rows.take k) (s.costs.take k)).length + 1 + (numsP (nth [] s.rows k)).length + (numsP [nth 0 s.costs k]).length ≤ (costsP s.rows s.costs).length := by
        rw [hst, List.length_append, List.length_append, List.length_append] at hle; simp only [List.length_cons, List.length_nil] at hle; omega
      have Hst := Lib.hid hst
      have hft := Lib.hid (fits_one (Hcf.out k (by omega)))
      clear hst hle
      go_wp2_with fail
      refine (writeByte_any b _ 44 _ HBk.out (by simp only [List.length_append, List.length_cons, List.length_nil, Hsl.out]; omega)).mono ?_
      rintro e W6 ⟨rfl, hB6, hk6⟩
      have HB6 := Lib.hid hB6
      have HK6 := Lib.hid (HKk.out.trans hk6)
      have HKt := Lib.hid hk6
      clear hB6 hk6
      go_wp2_with fail
      refine (numbers_any b _ _ (nth [] s.rows k) ok _ HB6.out (HE0.out.below HK6.out.below hb8) hb8 ((HS0.out.kep HKk.out).sl (by decide) HT.out HKt.out) (HS0.out.kep HK6.out) (Hr.out k hlt) (by simp only [List.length_append, List.length_cons, List.length_nil, Hsl.out]; omega)).mono ?_
      rintro e W7 ⟨rfl, hB7, hk7⟩
      have HB7 := Lib.hid hB7
      have HK7 := Lib.hid (HK6.out.trans hk7)
      have hlt7 := Lib.hid hB7.lt
      obtain ⟨d0, d1, d2, d3⟩ := (Hbox.out.kep Hne.out (by decide) HK7.out).cells
      obtain ⟨b8, o8, he8, g8⟩ := (Sl.elems (HS0.out.sl (by decide) H3.out HK7.out)).num (j := k) (by omega)
      subst he8
      clear hB7 hk7 HB6 HK6 HT HKt
      go_wp2_with fail
      refine (numbers_any b _ _ [nth 0 s.costs k] (· = W7.heap.size) _ (HB7.out.move (below_alloc1 _ _)) ((HE0.out.below HK7.out.below hb8).below (below_alloc1 _ _) (HE0.out.below HK7.out.below hb8).size) hb8 (lit_one W7 _) (stays_lit W7 _ hlt7.out) hft.out (by simp only [List.length_append, List.length_cons, List.length_nil, Hsl.out]; omega)).mono ?_
      rintro e W8 ⟨rfl, hB8, hk8⟩
      have HB8 := Lib.hid hB8
      have HK8 := Lib.hid (HK7.out.trans ((kep_alloc W7 _ (Nat.le_of_lt hlt7.out)).trans hk8))
      clear hB8 hk8 d0 d1 d2 d3 g8
      go_wp2
      go_roundw
      case rel => exact ⟨k + 1, by go_num, by omega, Lib.hid (by rw [Hst.out]; simpa only [List.append_assoc] using HB8.out), HK8⟩
      case measure => simp [intOf]; omega
    · go_wp2
      go_end0
      have e : s.rows.take k = s.rows := List.take_of_length_le (by omega)
      have e' : s.costs.take k = s.costs := List.take_of_length_le (by have := Hlc.out; omega)
      rw [e, e'] at HBk
      exact ⟨rfl, by rw [HP.out]; simpa only [List.append_assoc] using HBk.out, HK0.out.trans HKk.out⟩
end Go.Proofs.YtgpgmmkkmoecmaaGreatDoor

/- What inst.soft and Right compute: with functions handed to slices.ContainsFunc. -/
namespace Go.Proofs.YtgpgmmkkmoecmaaGreatDoor
open Go.RowKit

def findFrom {α : Type} (p : α → Bool) : Nat → List α → Int
  | _, [] => -1
  | i, a :: r => if p a = true then i else findFrom p (i + 1) r
theorem findFrom_ge {α : Type} (p : α → Bool) : ∀ (l : List α) (i : Nat), decide (0 ≤ findFrom p i l) = l.any p
  | [], i => by simp [findFrom]
  | a :: r, i => by
    unfold findFrom
    cases h : p a
    · simp [h, findFrom_ge p r (i + 1)]
    · simp [h]
theorem findFrom_drop {α : Type} (p : α → Bool) (z : α) (xs : List α) (k : Nat) (h : k < xs.length) : findFrom p k (xs.drop k) = if p (nth z xs k) = true then (k : Int) else findFrom p (k + 1) (xs.drop (k + 1)) := by
  rw [drop_cons xs z k h, findFrom]

theorem wide_any (n : Int) (w : World) : Calls Tryz.prog 57 #[.int .i64 n] w fun e w' => e = .returned (.bool (!smallB n 1000000000000)) ∧ w = w' := by
  go_enter Tryz.func57, Tryz.ntmps57
  go_wp2_with (go_at_call 58; refine (small64_any _ _ _ (by omega) (by omega)).mono ?_; rintro e w' ⟨rfl, rfl⟩)
  go_ret
  exact ⟨rfl, rfl⟩
theorem indexWide_any (v : Value) (xs : List Int) (ok : Nat → Prop) (w : World) (h1 : Sl (Kd.int .i64) w ok v xs) :
    Calls Tryz.prog 91 #[v, .func (.func 57) #[] #[]] w fun e w' => e = .returned (.int .i64 (findFrom (fun n => !smallB n 1000000000000) 0 xs)) ∧ w = w' := by
  obtain ⟨A, c, rfl, hc, hm, hA⟩ := h1
  go_enter Tryz.func91, Tryz.ntmps91
  go_wp2
  go_loop [8] (fun i => ∃ k : Nat, i = .int .i64 k ∧ k ≤ xs.length ∧ Hid (findFrom (fun n => !smallB n 1000000000000) 0 xs = findFrom (fun n => !smallB n 1000000000000) k (xs.drop k))) (fun i => xs.length - (intOf i).toNat)
  case atStart => exact ⟨0, rfl, by omega, Lib.hid rfl⟩
  case round =>
    obtain ⟨k, rfl, hk, H⟩ := hrel
    by_cases hlt : k < xs.length
    · obtain ⟨b, o, rfl, hcell⟩ := hA.num hlt
      have H' := Lib.hid (findFrom_drop (fun n => !smallB n 1000000000000) 0 xs k hlt)
      clear hA
      cases hs : smallB (nth 0 xs k) 1000000000000
      · go_wp2_with (go_at_call 57; refine (wide_any _ _).mono ?_; rintro e w' ⟨rfl, rfl⟩)
        go_ret
        exact ⟨ret_int (by rw [H.out, H'.out, hs]; simp), rfl⟩
      · go_wp2_with (go_at_call 57; refine (wide_any _ _).mono ?_; rintro e w' ⟨rfl, rfl⟩)
        go_round
        case rel => exact ⟨k + 1, by go_num, by omega, Lib.hid (by rw [H.out, H'.out, hs]; simp)⟩
        case measure => simp [intOf]; omega
    · go_wp2
      go_ret
      refine ⟨ret_int ?_, rfl⟩
      rw [H.out, List.drop_eq_nil_of_le (by omega)]; rfl
theorem anyWide_any (v : Value) (xs : List Int) (ok : Nat → Prop) (w : World) (h1 : Sl (Kd.int .i64) w ok v xs) :
    Calls Tryz.prog 59 #[v, .func (.func 57) #[] #[]] w fun e w' => e = .returned (.bool (wideAny xs)) ∧ w = w' := by
  have hx := Lib.hid (findFrom_ge (fun n => !smallB n 1000000000000) xs 0)
  go_enter Tryz.func59, Tryz.ntmps59
  go_wp2_with (go_at_call 91; refine (indexWide_any _ _ _ _ h1).mono ?_; rintro e w' ⟨rfl, rfl⟩)
  go_ret
  exact ⟨ret_bool hx.out, rfl⟩

set_option maxRecDepth 100000 in
theorem soft_any (vD vH vS vs vr vc : Value) (x : Ins) (s : Sft) (ok : Nat → Prop) (w : World) (hD : Sl kRow w ok vD x.doms) (h1 : Sl (Kd.int .i64) w ok vs s.scope) (h2 : Sl kRow w ok vr s.rows) (h3 : Sl (Kd.int .i64) w ok vc s.costs) :
    Calls Tryz.prog 28 #[.agg #[vD, vH, vS], .agg #[vs, vr, vc, .int .i64 s.dflt]] w fun e w' => e = .returned (.bool (softB x s)) ∧ Below w.heap.size w w' := by
  obtain ⟨AD, cD, rfl, hcD, hmD, hAD⟩ := hD
  obtain ⟨As, cs, rfl, hcs, hms, hAs⟩ := h1
  obtain ⟨Ar, cr, rfl, hcr, hmr, hAr⟩ := h2
  obtain ⟨Aa, ca, rfl, hca, hma, hAa⟩ := h3
  have HB0 := (below_alloc1 w (.cells #[.slice AD x.doms.length cD, vH, vS] 30)).alloc (by simp) (.cells #[.slice As s.scope.length cs, .slice Ar s.rows.length cr, .slice Aa s.costs.length ca, .int .i64 s.dflt] 37)
  have HD := Sl.below (v := .slice AD x.doms.length cD) (xs := x.doms) (by decide) ⟨AD, cD, rfl, hcD, hmD, hAD⟩ HB0
  have HS := Sl.below (v := .slice As s.scope.length cs) (xs := s.scope) (by decide) ⟨As, cs, rfl, hcs, hms, hAs⟩ HB0
  have HR := Sl.below (v := .slice Ar s.rows.length cr) (xs := s.rows) (by decide) ⟨Ar, cr, rfl, hcr, hmr, hAr⟩ HB0
  have HC := Sl.below (v := .slice Aa s.costs.length ca) (xs := s.costs) (by decide) ⟨Aa, ca, rfl, hca, hma, hAa⟩ HB0
  clear hAD hAs hAr hAa
  have HB := Lib.hid HB0
  clear HB0
  have hsc' := Lib.hid (scope_any _ vH vS _ _ _ ok _ HD HS)
  cases hq : wideAny s.costs
  all_goals
    go_enter Tryz.func28, Tryz.ntmps28
    go_wp2_with (first
      | (go_at_call 53; refine (hsc'.out).mono ?_; rintro e w' ⟨rfl, hb⟩; (obtain ⟨hc, hb'⟩ : (∀ b o, _ → _) ∧ Hid _ := ⟨bcell hb, Lib.hid hb⟩); clear hb)
      | (go_at_call 57; refine (wide_any _ _).mono ?_; rintro e w' ⟨rfl, rfl⟩)
      | (go_at_call 59; refine (anyWide_any _ _ _ _ (HC.below (by decide) hb'.out)).mono ?_; rintro e w' ⟨rfl, rfl⟩; rw [hq])
      | (go_at_call 55; refine (rows_any _ _ _ _ _ _ _ _ _ _ (HD.below (by decide) hb'.out) (HS.below (by decide) hb'.out) (HR.below (by decide) hb'.out) (scopeB_bounds (by assumption))).mono ?_; rintro e w'' ⟨rfl, hb⟩; have hb2 := Lib.hid hb; clear hb))
  all_goals go_ret
  all_goals refine ⟨ret_bool ?_, by first | exact below_next (below_next HB.out hb'.out) hb2.out | exact below_next HB.out hb'.out⟩
  all_goals clear hc hsc' HD HS HR HC HB hb'
  all_goals try clear hb2
  all_goals unfold softB
  all_goals rw [hq]
  all_goals clear hq
  all_goals by_cases e2 : s.costs.length = s.rows.length
  all_goals try (simp [*]; done)
  all_goals (exfalso; omega)
end Go.Proofs.YtgpgmmkkmoecmaaGreatDoor

/- inst.Right: its closures, slices.IndexFunc and ContainsFunc over them. -/
namespace Go.Proofs.YtgpgmmkkmoecmaaGreatDoor
open Go.RowKit

theorem right1_any (v : Value) (d : List Int) (ok : Nat → Prop) (w : World) (h : Sl (Kd.int .i64) w ok v d) :
    Calls Tryz.prog 21 #[v] w fun e w' => e = .returned (.bool (!domainB d)) ∧ Below w.heap.size w w' := by
  go_enter Tryz.func21, Tryz.ntmps21
  go_wp2_with (go_at_call 22; refine (domain_any _ _ _ _ h).mono ?_; rintro e w' ⟨rfl, nd, rfl⟩)
  go_ret
  exact ⟨rfl, below_drewN (Below.refl _ _) _⟩

set_option maxRecDepth 100000 in
theorem right2_any (vD vH vS vs vr va : Value) (x : Ins) (c : Con) (ok : Nat → Prop) (w : World) (hD : Sl kRow w ok vD x.doms) (h1 : Sl (Kd.int .i64) w ok vs c.scope) (h2 : Sl kRow w ok vr c.rows) (h3 : Sl (Kd.int .i64) w ok va c.args)
    (g : Nat) (hg : w.heap[g]? = some (.cells #[vD, vH, vS] 30 (0, 0))) :
    Calls Tryz.prog 24 #[.agg #[.int .i64 c.kind, vs, vr, va], .pointer (some ⟨g, 0, none⟩)] w fun e w' => e = .returned (.bool (!hardB x c)) ∧ Below w.heap.size w w' := by
  have HB := below_alloc1 w (.cells #[.int .i64 c.kind, vs, vr, va] 34)
  have g0 := cell_kept HB (cell_at hg (i := 0) (u := vD) rfl)
  have g1 := cell_kept HB (cell_at hg (i := 1) (u := vH) rfl)
  have g2 := cell_kept HB (cell_at hg (i := 2) (u := vS) rfl)
  have hcall := Lib.hid (hard_any _ vH vS _ _ _ x c ok _ (hD.below (by decide) HB) (h1.below (by decide) HB) (h2.below (by decide) HB) (h3.below (by decide) HB))
  clear hD h1 h2 h3 hg
  have HB' := Lib.hid HB
  clear HB
  go_enter Tryz.func24, Tryz.ntmps24
  go_wp2_with (go_at_call 25; refine hcall.out.mono ?_; rintro e w' ⟨rfl, hb⟩; have hb' := Lib.hid hb; clear hb)
  go_ret
  exact ⟨rfl, below_next HB'.out hb'.out⟩

set_option maxRecDepth 100000 in
theorem right3_any (vD vH vS vs vr vc : Value) (x : Ins) (s : Sft) (ok : Nat → Prop) (w : World) (hD : Sl kRow w ok vD x.doms) (h1 : Sl (Kd.int .i64) w ok vs s.scope) (h2 : Sl kRow w ok vr s.rows) (h3 : Sl (Kd.int .i64) w ok vc s.costs)
    (g : Nat) (hg : w.heap[g]? = some (.cells #[vD, vH, vS] 30 (0, 0))) :
    Calls Tryz.prog 27 #[.agg #[vs, vr, vc, .int .i64 s.dflt], .pointer (some ⟨g, 0, none⟩)] w fun e w' => e = .returned (.bool (!softB x s)) ∧ Below w.heap.size w w' := by
  have HB := below_alloc1 w (.cells #[vs, vr, vc, .int .i64 s.dflt] 37)
  have g0 := cell_kept HB (cell_at hg (i := 0) (u := vD) rfl)
  have g1 := cell_kept HB (cell_at hg (i := 1) (u := vH) rfl)
  have g2 := cell_kept HB (cell_at hg (i := 2) (u := vS) rfl)
  have hcall := Lib.hid (soft_any _ vH vS _ _ _ x s ok _ (hD.below (by decide) HB) (h1.below (by decide) HB) (h2.below (by decide) HB) (h3.below (by decide) HB))
  clear hD h1 h2 h3 hg
  have HB' := Lib.hid HB
  clear HB
  go_enter Tryz.func27, Tryz.ntmps27
  go_wp2_with (go_at_call 28; refine hcall.out.mono ?_; rintro e w' ⟨rfl, hb⟩; have hb' := Lib.hid hb; clear hb)
  go_ret
  exact ⟨rfl, below_next HB'.out hb'.out⟩
end Go.Proofs.YtgpgmmkkmoecmaaGreatDoor
