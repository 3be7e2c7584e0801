/- inst.parser: statement. -/
import Derived.Test.YtoahaigfjfeopaaGreatDoorWaf
namespace Go.Proofs.YtoahaigfjfeopaaGreatDoor
open Go.RowKit
attribute [local irreducible] wpStill wpLex Calls

theorem PAll.below {g : Nat} {w w' : World} {ts : List Tok} {x : Ins} (h : PAll g w ts x) (hb : Below w.heap.size w w') : PAll g w' ts x := by
  obtain ⟨dv, hv, sv, ok, hp, hst, hT⟩ := h
  exact ⟨dv, hv, sv, ok, hp.chg (chg_of_below hb (fun _ => False)) (fun _ _ h => h), (hst.chg (chg_of_below hb (fun _ => False)) (fun _ h => h.elim)).later hb.size, hT⟩
theorem PAll.toks {g : Nat} {w : World} {ts : List Tok} {x : Ins} (h : PAll g w ts x) : Toks ts := by
  obtain ⟨_, _, _, _, _, _, hT⟩ := h; exact hT
/-- The tables of words. -/
structure Tabs (w : World) : Prop where
  words : ∃ t fr, w.heap[0]? = some (.cells (wordsT.map fun l => Value.string ⟨l.toArray⟩).toArray t fr)
  hows : ∃ t fr, w.heap[1]? = some (.cells (howsT.map fun l => Value.string ⟨l.toArray⟩).toArray t fr)
theorem Tabs.below {w w' : World} {B : Nat} (h : Tabs w) (hb : Below B w w') (h8 : 8 ≤ B) : Tabs w' := by
  obtain ⟨t, fr, h1⟩ := h.words
  obtain ⟨t', fr', h2⟩ := h.hows
  exact ⟨⟨t, fr, (hb.block _ (by omega)).trans h1⟩, ⟨t', fr', (hb.block _ (by omega)).trans h2⟩⟩
def StmtOut (g : Nat) (w' : World) (e : Ending) (y : Ins) (r : List Tok) : Prop := e = .returned (.tuple #[]) ∧ PAll g w' r y

section
variable {x : Ins} {t : Tok} {r r' r2 : List Tok} {e : Int × Int} {u : Unit}
theorem stmtQ_bad (h : ¬ (t.kind = 1 ∧ (0 < wordFrom t.text 0 wordsT ∨ t.text = varT ∨ t.text = softT))) : stmtQ x (t :: r) = .error (t.at_, 3) := by
  simp only [stmtQ, nextQ]; exact if_pos h
theorem stmtQ_var (hk : t.kind = 1) (ht : t.text = varT) :
    (40 ≤ x.doms.length → stmtQ x (t :: r) = .error (t.at_, 7)) ∧ (¬ 40 ≤ x.doms.length → (domQ r [] = .error e → stmtQ x (t :: r) = .error e) ∧
      ∀ d, domQ r [] = .ok (d, r') → (signQ [59] r' = .error e → stmtQ x (t :: r) = .error e) ∧ (signQ [59] r' = .ok (u, r2) → stmtQ x (t :: r) = .ok ({ x with doms := x.doms ++ [d] }, r2))) := by
  have h4 : ¬ t.kind = 4 := by omega
  have hg : ¬ ¬ (t.kind = 1 ∧ (0 < wordFrom t.text 0 wordsT ∨ t.text = varT ∨ t.text = softT)) := fun h => h ⟨hk, .inr (.inl ht)⟩
  refine ⟨fun h => ?_, fun h => ⟨fun hd => ?_, fun d hd => ⟨fun hs => ?_, fun hs => ?_⟩⟩⟩ <;> simp only [stmtQ, nextQ, if_neg h4, if_neg hg, if_pos ht]
  · simp only [if_pos h]
  · simp only [if_neg h, hd]
  · simp only [if_neg h, hd, hs]
  · simp only [if_neg h, hd, hs]
theorem stmtQ_soft (hk : t.kind = 1) (ht : t.text = softT) :
    (200 ≤ x.soft.length → stmtQ x (t :: r) = .error (t.at_, 7)) ∧ (¬ 200 ≤ x.soft.length → (softQ x.doms r = .error e → stmtQ x (t :: r) = .error e) ∧
      ∀ d, softQ x.doms r = .ok (d, r') → (signQ [59] r' = .error e → stmtQ x (t :: r) = .error e) ∧ (signQ [59] r' = .ok (u, r2) → stmtQ x (t :: r) = .ok ({ x with soft := x.soft ++ [d] }, r2))) := by
  have h4 : ¬ t.kind = 4 := by omega
  have hnv : ¬ t.text = varT := by rw [ht]; decide
  have hg : ¬ ¬ (t.kind = 1 ∧ (0 < wordFrom t.text 0 wordsT ∨ t.text = varT ∨ t.text = softT)) := fun h => h ⟨hk, .inr (.inr ht)⟩
  refine ⟨fun h => ?_, fun h => ⟨fun hd => ?_, fun d hd => ⟨fun hs => ?_, fun hs => ?_⟩⟩⟩ <;> simp only [stmtQ, nextQ, if_neg h4, if_neg hg, if_neg hnv, if_pos ht]
  · simp only [if_pos h]
  · simp only [if_neg h, hd]
  · simp only [if_neg h, hd, hs]
  · simp only [if_neg h, hd, hs]
theorem stmtQ_hard {kw : Int} (hkw : kw = wordFrom t.text 0 wordsT) (hk : t.kind = 1) (hw : 0 < kw) (hnv : ¬ t.text = varT) (hns : ¬ t.text = softT) :
    (200 ≤ x.hard.length → stmtQ x (t :: r) = .error (t.at_, 7)) ∧ (¬ 200 ≤ x.hard.length → (hardQ x.doms kw r = .error e → stmtQ x (t :: r) = .error e) ∧
      ∀ d, hardQ x.doms kw r = .ok (d, r') → (signQ [59] r' = .error e → stmtQ x (t :: r) = .error e) ∧ (signQ [59] r' = .ok (u, r2) → stmtQ x (t :: r) = .ok ({ x with hard := x.hard ++ [d] }, r2))) := by
  subst hkw
  have h4 : ¬ t.kind = 4 := by omega
  have hg : ¬ ¬ (t.kind = 1 ∧ (0 < wordFrom t.text 0 wordsT ∨ t.text = varT ∨ t.text = softT)) := fun h => h ⟨hk, .inl hw⟩
  refine ⟨fun h => ?_, fun h => ⟨fun hd => ?_, fun d hd => ⟨fun hs => ?_, fun hs => ?_⟩⟩⟩ <;> simp only [stmtQ, nextQ, if_neg h4, if_neg hg, if_neg hnv, if_neg hns]
  · simp only [if_pos h]
  · simp only [if_neg h, hd]
  · simp only [if_neg h, hd, hs]
  · simp only [if_neg h, hd, hs]
end

set_option maxRecDepth 100000 in
set_option maxHeartbeats 4000000 in
theorem statement_p (g : Nat) (w : World) (ts : List Tok) (x : Ins) (h : PAll g w ts x) (hx1 : x.doms.length ≤ 40) (hx2 : x.hard.length ≤ 200) (hx3 : x.soft.length ≤ 200) (htl : ts.length ≤ 150000) (hE : Tabs w) (h8 : 8 ≤ g) :
    Calls Tryz.prog 46 #[.pointer (some ⟨g, 0, none⟩)] w fun e w' => Out (stmtQ x ts) (StmtOut g w' e) e ∧ Below g w w' := by
  obtain ⟨t, r, rfl⟩ := h.toks.cons
  obtain ⟨dv, hv, sv, ok, hp, hst, hT⟩ := h
  have hgw := hp.lt
  have hnx := Lib.hid (next_any g w t r dv hv sv hp)
  have HST := Lib.hid hst
  have HT := Lib.hid hT
  have HE := Lib.hid hE
  have HTK : Hid (tokC t = [.int .i64 t.kind, .string ⟨t.text.toArray⟩, .int .i64 t.n, .int .i64 t.at_]) := Lib.hid rfl
  clear hp hst hT hE
  go_enter Tryz.func46, Tryz.ntmps46
  go_wp2_with (go_at_call 69; refine hnx.out.mono ?_; rintro e w1 ⟨rfl, hp1, hg1⟩; (have HP1 := Lib.hid hp1); (have HG1 := Lib.hid (chg_g hg1 (fun k => k = g) rfl)); clear hp1 hg1; rw [HTK.out])
  have hX := Lib.hid (show (w1.alloc (tokO t ⟨t.text.toArray⟩)).drew.heap[w1.heap.size]? = some (tokO t ⟨t.text.toArray⟩) from heap_alloc_new w1 _)
  have hF2 : Chg (fun k => k = g) w (w1.alloc (tokO t ⟨t.text.toArray⟩)).drew := (HG1.out.alloc (tokO t ⟨t.text.toArray⟩)).drew
  have hP2 := (HP1.out.alloc (tokO t ⟨t.text.toArray⟩)).drew
  have hS2 := (HST.out.chg hF2 (fun k hk => by omega)).later hF2.size
  have hE2 := HE.out.below (hF2.below (B := g) (fun k hk e => by omega) (by omega)) h8
  obtain ⟨tw, fw, hw⟩ := hE2.words
  have HHW := Lib.hid hw
  have HF2 := Lib.hid (hF2.below (B := g) (fun k hk e => by omega) (by omega))
  have HP2 := Lib.hid hP2
  have HS2 := Lib.hid hS2
  have HE2 := Lib.hid hE2
  clear hF2 hP2 hS2 hE2 hw HP1 HG1 HST HE hnx
  refine wp_region_still_lit (by kernel_rfl) (by kernel_rfl) ?_
  change wpStill _ _ (World.drew (w1.alloc (tokO t ⟨t.text.toArray⟩))) (fun a' => Exit.then _ _ Exit.normal a' (World.drew (w1.alloc (tokO t ⟨t.text.toArray⟩)))) _ _
  generalize World.drew (w1.alloc (tokO t ⟨t.text.toArray⟩)) = W at *
  generalize w1.heap.size = k1 at *
  have HIX := Lib.hid (words_index t.text wordsT 0 W HHW.out (by decide) 7)
  have HVT : Hid (decide (t.text = varT) = ((ByteArray.mk t.text.toArray).toList == [118, 97, 114])) := Lib.hid (by have := bytes_eq t.text varT; rw [← this, ByteArray.toList_eq, ByteArray.toList_eq]; rfl)
  have HSF : Hid (decide (t.text = softT) = ((ByteArray.mk t.text.toArray).toList == [115, 111, 102, 116])) := Lib.hid (by have := bytes_eq t.text softT; rw [← this, ByteArray.toList_eq, ByteArray.toList_eq]; rfl)
  generalize (ByteArray.mk t.text.toArray) = tb at *
  have d0 := cell_at hX.out (i := 0) rfl
  have d1 := cell_at hX.out (i := 1) rfl
  have d2 := cell_at hX.out (i := 2) rfl
  have d3 := cell_at hX.out (i := 3) rfl
  repeat (first | (refine still_plain rfl (fun K hK => ?_); go_simp; refine hK _ ?_; clear hK K) | (refine still_off _ _ _ _ _ rfl rfl rfl rfl rfl (fun K hK => ?_); go_simp; refine hK _ ?_; clear hK K) | (refine still_on _ _ _ _ rfl rfl rfl rfl (fun K hK => ?_); go_simp; refine hK _ ?_; clear hK K) | (refine still_dead _ _ _ _ rfl rfl rfl rfl (fun K hK => ?_); go_simp; refine hK _ ?_; clear hK K))
  ((first | refine still_plain rfl (fun K hK => ?_) | refine still_on _ _ _ _ rfl rfl rfl rfl (fun K hK => ?_)); go_simp; refine ⟨_, HIX.out, hK _ ?_⟩; clear hK K)
  repeat (first | (refine still_plain rfl (fun K hK => ?_); go_simp; refine hK _ ?_; clear hK K) | (refine still_off _ _ _ _ _ rfl rfl rfl rfl rfl (fun K hK => ?_); go_simp; refine hK _ ?_; clear hK K) | (refine still_on _ _ _ _ rfl rfl rfl rfl (fun K hK => ?_); go_simp; refine hK _ ?_; clear hK K) | (refine still_dead _ _ _ _ rfl rfl rfl rfl (fun K hK => ?_); go_simp; refine hK _ ?_; clear hK K))
  refine wpStill_nil ?_
  obtain ⟨kw, hkw⟩ : ∃ kw, kw = wordFrom t.text 0 wordsT := ⟨_, rfl⟩
  rw [← hkw]
  have HKW := Lib.hid hkw
  clear hkw HIX
  by_cases hk : t.kind = 1
  · have hkb : (t.kind == 1) = true := by simpa using hk
    by_cases hv : t.text = varT
    · have hvb : (tb.toList == [118, 97, 114]) = true := by rw [← HVT.out]; simpa using hv
      have hKV : ¬ 0 < kw := by rw [HKW.out, hv]; decide
      have hwb : decide (0 < kw) = false := by simpa using hKV
      have HV := Lib.hid hv
      have HK := Lib.hid hk
      clear hv HSF HVT
      obtain ⟨VA, Vc, hvv, _, _, _⟩ := HS2.out.D.sl (by omega)
      subst hvv
      have hT2 := HT.out.tail (by omega)
      have hpp := HP2.out
      rw [if_neg (by omega)] at hpp
      have HP3 := Lib.hid hpp
      have HT2 := Lib.hid hT2
      have HLQ := Lib.hid (fun (r' r2 : List Tok) (e : Int × Int) => stmtQ_var HK.out HV.out (x := x) (r := r) (r' := r') (r2 := r2) (e := e) (u := ()))
      clear hT2 hpp HT HP2 hk hKV
      go_wp2_with (go_at_call 71; refine (must_yes _ _ _ _ _ _ _ (by first | rfl | assumption)).mono ?_; rintro e W3 ⟨rfl, hb3⟩; (have HB3 := Lib.hid (hb3.trans (Below.drew (Below.refl W3.heap.size W3) |>.mono hb3.size))); (have HX3 := Lib.hid (block_kept hb3 hX.out)); (have e0 := cell_at HX3.out (i := 0) rfl); (have e1 := cell_at HX3.out (i := 1) rfl); (have e2 := cell_at HX3.out (i := 2) rfl); (have e3 := cell_at HX3.out (i := 3) rfl); clear hb3 d0 d1 d2 d3)
      have hX4 : W3.drew.heap[k1]? = _ := HX3.out
      have hP4 := HP3.out.grown (below_grown0 HB3.out none) (by simp)
      have hS4 := (HS2.out.chg (chg_of_below HB3.out (fun _ => False)) (fun _ h => h.elim)).later HB3.out.size
      have hE4 := HE2.out.below (HB3.out.mono (by have := HF2.out.size; omega) : Below g W W3.drew) h8
      have hF4 := HF2.out.trans (HB3.out.mono (by have := HF2.out.size; omega) : Below g W W3.drew)
      obtain ⟨A4, n4, c4, hb4, _⟩ := hP4
      have g1 := cell_at hb4 (i := 1) rfl
      have HP4 := Lib.hid (show PB g W3.drew r _ _ _ from ⟨A4, n4, c4, hb4, by assumption⟩)
      have HS4 := Lib.hid hS4
      have HE4 := Lib.hid hE4
      have HF4 := Lib.hid hF4
      have HX4 := Lib.hid hX4
      have d0 := cell_at hX4 (i := 0) rfl
      have d1 := cell_at hX4 (i := 1) rfl
      have d2 := cell_at hX4 (i := 2) rfl
      have d3 := cell_at hX4 (i := 3) rfl
      clear hb4 hX4 hS4 hE4 hF4 HB3 HX3 HP3 HS2 HE2 HF2 hX HHW e0 e1 e2 e3
      refine wp_region_still_tail 8 (by kernel_rfl) (by kernel_rfl) ?_
      change wpStill _ _ (World.drew W3) (fun a' => wpList _ _ _ _ a' (World.drew W3)) _ _
      generalize World.drew W3 = V at *
      simp only [List.take_succ_cons, List.take_zero, List.drop_succ_cons, List.drop_zero]
      repeat (first | (refine still_plain rfl (fun K hK => ?_); go_simp; refine hK _ ?_; clear hK K) | (refine still_off _ _ _ _ _ rfl rfl rfl rfl rfl (fun K hK => ?_); go_simp; refine hK _ ?_; clear hK K) | (refine still_on _ _ _ _ rfl rfl rfl rfl (fun K hK => ?_); go_simp; refine hK _ ?_; clear hK K) | (refine still_dead _ _ _ _ rfl rfl rfl rfl (fun K hK => ?_); go_simp; refine hK _ ?_; clear hK K))
      refine wpStill_nil ?_
      have hgv : g < V.heap.size := HP4.out.lt
      by_cases hmany : 40 ≤ x.doms.length
      · have HR : Hid (stmtQ x (t :: r) = .error (t.at_, 7)) := Lib.hid ((HLQ.out [] [] (0, 0)).1 hmany)
        have hbb : decide (x.doms.length < 40) = false := by simpa using hmany
        go_wp2_with (go_at_call 71; refine (must_no _ _ _ _ _ _ _ (by first | rfl | (simp; omega))).mono ?_; rintro e W5 ⟨rfl, hb5⟩; refine ⟨rfl, ?_⟩; rw [HR.out]; exact ⟨rfl, HF4.out.trans (hb5.mono (by omega))⟩)
      · have hbb : decide (x.doms.length < 40) = true := by simpa using hmany
        have HLQ2 := Lib.hid (fun r' r2 e => (HLQ.out r' r2 e).2 hmany)
        have hm2 : x.doms.length < 40 := by omega
        clear HLQ hmany
        go_wp2_with (go_at_call 71; refine (must_yes _ _ _ _ _ _ _ (by first | rfl | (simp; omega))).mono ?_; rintro e W5 ⟨rfl, hb5⟩; (have HPA := Lib.hid (PAll.below ⟨_, _, _, _, HP4.out, HS4.out, HT2.out⟩ hb5 : PAll g W5 r x)); (have HE5 := Lib.hid (HE4.out.below (hb5.mono (by omega) : Below g V W5) h8)); (have HF5 := Lib.hid (HF4.out.trans (hb5.mono (by omega)))); clear hb5 d0 d1 d2 d3)
        have hcc := Lib.hid (domain_p g W5 r x HPA.out hx1)
        rcases hq : domQ r [] with ⟨p, y⟩ | ⟨d, r5⟩
        · have HR : Hid (stmtQ x (t :: r) = .error (p, y)) := Lib.hid ((HLQ2.out [] [] (p, y)).1 hq)
          rw [hq] at hcc
          clear hq
          refine hcc.out.mono ?_
          rintro e w' ⟨he, hg⟩
          obtain rfl : e = wrongs p y := he
          refine ⟨rfl, ?_⟩
          rw [HR.out]
          exact ⟨rfl, HF5.out.trans hg⟩
        · have HLQ3 := Lib.hid (fun r2 e => (HLQ2.out r5 r2 e).2 d hq)
          rw [hq] at hcc
          clear hq
          refine hcc.out.mono ?_
          rintro e W6 ⟨⟨rfl, hp6⟩, hg6⟩
          obtain ⟨t6, r6, rfl⟩ := hp6.toks.cons
          obtain ⟨dv6, hv6, sv6, ok6, hp6, hst6, hT6⟩ := hp6
          have hsg := Lib.hid (sign_q g W6 t6 r6 _ _ _ [59] hp6 hT6)
          have HST6 := Lib.hid hst6
          have hgw6 := hp6.lt
          have HF6 := Lib.hid (HF5.out.trans hg6)
          clear hp6 hst6 hT6 hg6 hcc
          rcases hq : signQ [59] (t6 :: r6) with ⟨p, y⟩ | ⟨u0, r7⟩
          · have HR : Hid (stmtQ x (t :: r) = .error (p, y)) := Lib.hid ((HLQ3.out [] (p, y)).1 hq)
            rw [hq] at hsg
            clear hq
            go_wp2_with (go_at_call 75; refine hsg.out.mono ?_; rintro e w' ⟨he, hg⟩; obtain rfl : e = wrongs p y := he; refine ⟨rfl, ?_⟩; rw [HR.out]; exact ⟨rfl, HF6.out.trans (hg.below (fun k hk e => by omega) (by omega))⟩)
          · have HR := Lib.hid ((HLQ3.out r7 (0, 0)).2 hq)
            rw [hq] at hsg
            clear hq
            go_wp2_with (go_at_call 75; refine hsg.out.mono ?_; rintro e w' ⟨⟨rfl, hp7, hT7⟩, hg⟩; (have HPF := Lib.hid (show PAll g w' r7 _ from ⟨_, _, _, _, hp7, (HST6.out.chg hg (fun k hk => by omega)).later hg.size, hT7⟩)); (have HFF := Lib.hid (HF6.out.trans (hg.below (B := g) (fun k hk e => by omega) (by omega)))); clear hp7 hT7 hg)
            go_end0
            rw [HR.out]
            exact ⟨⟨rfl, HPF.out⟩, HFF.out⟩
    · by_cases hs : t.text = softT
      · have hvb : (tb.toList == [118, 97, 114]) = false := by rw [← HVT.out]; simpa using hv
        have hsb : (tb.toList == [115, 111, 102, 116]) = true := by rw [← HSF.out]; simpa using hs
        have hKV : ¬ 0 < kw := by rw [HKW.out, hs]; decide
        have hwb : decide (0 < kw) = false := by simpa using hKV
        have HV := Lib.hid hs
        have HK := Lib.hid hk
        clear hv hs HSF HVT
        obtain ⟨VA, Vc, hvv, _, _, _⟩ := HS2.out.S.sl (by omega)
        subst hvv
        have hT2 := HT.out.tail (by omega)
        have hpp := HP2.out
        rw [if_neg (by omega)] at hpp
        have HP3 := Lib.hid hpp
        have HT2 := Lib.hid hT2
        have HLQ := Lib.hid (fun (r' r2 : List Tok) (e : Int × Int) => stmtQ_soft HK.out HV.out (x := x) (r := r) (r' := r') (r2 := r2) (e := e) (u := ()))
        clear hT2 hpp HT HP2 hk hKV
        go_wp2_with (go_at_call 71; refine (must_yes _ _ _ _ _ _ _ (by first | rfl | assumption)).mono ?_; rintro e W3 ⟨rfl, hb3⟩; (have HB3 := Lib.hid (hb3.trans (Below.drew (Below.refl W3.heap.size W3) |>.mono hb3.size))); (have HX3 := Lib.hid (block_kept hb3 hX.out)); (have e0 := cell_at HX3.out (i := 0) rfl); (have e1 := cell_at HX3.out (i := 1) rfl); (have e2 := cell_at HX3.out (i := 2) rfl); (have e3 := cell_at HX3.out (i := 3) rfl); clear hb3 d0 d1 d2 d3)
        have hX4 : W3.drew.heap[k1]? = _ := HX3.out
        have hP4 := HP3.out.grown (below_grown0 HB3.out none) (by simp)
        have hS4 := (HS2.out.chg (chg_of_below HB3.out (fun _ => False)) (fun _ h => h.elim)).later HB3.out.size
        have hE4 := HE2.out.below (HB3.out.mono (by have := HF2.out.size; omega) : Below g W W3.drew) h8
        have hF4 := HF2.out.trans (HB3.out.mono (by have := HF2.out.size; omega) : Below g W W3.drew)
        obtain ⟨A4, n4, c4, hb4, _⟩ := hP4
        have g1 := cell_at hb4 (i := 3) rfl
        have HP4 := Lib.hid (show PB g W3.drew r _ _ _ from ⟨A4, n4, c4, hb4, by assumption⟩)
        have HS4 := Lib.hid hS4
        have HE4 := Lib.hid hE4
        have HF4 := Lib.hid hF4
        have HX4 := Lib.hid hX4
        have d0 := cell_at hX4 (i := 0) rfl
        have d1 := cell_at hX4 (i := 1) rfl
        have d2 := cell_at hX4 (i := 2) rfl
        have d3 := cell_at hX4 (i := 3) rfl
        clear hb4 hX4 hS4 hE4 hF4 HB3 HX3 HP3 HS2 HE2 HF2 hX HHW e0 e1 e2 e3
        refine wp_region_still_tail 8 (by kernel_rfl) (by kernel_rfl) ?_
        change wpStill _ _ (World.drew W3) (fun a' => wpList _ _ _ _ a' (World.drew W3)) _ _
        generalize World.drew W3 = V at *
        simp only [List.take_succ_cons, List.take_zero, List.drop_succ_cons, List.drop_zero]
        repeat (first | (refine still_plain rfl (fun K hK => ?_); go_simp; refine hK _ ?_; clear hK K) | (refine still_off _ _ _ _ _ rfl rfl rfl rfl rfl (fun K hK => ?_); go_simp; refine hK _ ?_; clear hK K) | (refine still_on _ _ _ _ rfl rfl rfl rfl (fun K hK => ?_); go_simp; refine hK _ ?_; clear hK K) | (refine still_dead _ _ _ _ rfl rfl rfl rfl (fun K hK => ?_); go_simp; refine hK _ ?_; clear hK K))
        refine wpStill_nil ?_
        have hgv : g < V.heap.size := HP4.out.lt
        by_cases hmany : 200 ≤ x.soft.length
        · have HR : Hid (stmtQ x (t :: r) = .error (t.at_, 7)) := Lib.hid ((HLQ.out [] [] (0, 0)).1 hmany)
          have hbb : decide (x.soft.length < 200) = false := by simpa using hmany
          go_wp2_with (go_at_call 71; refine (must_no _ _ _ _ _ _ _ (by first | rfl | (simp; omega))).mono ?_; rintro e W5 ⟨rfl, hb5⟩; refine ⟨rfl, ?_⟩; rw [HR.out]; exact ⟨rfl, HF4.out.trans (hb5.mono (by omega))⟩)
        · have hbb : decide (x.soft.length < 200) = true := by simpa using hmany
          have HLQ2 := Lib.hid (fun r' r2 e => (HLQ.out r' r2 e).2 hmany)
          have hm2 : x.soft.length < 200 := by omega
          clear HLQ hmany
          go_wp2_with (go_at_call 71; refine (must_yes _ _ _ _ _ _ _ (by first | rfl | (simp; omega))).mono ?_; rintro e W5 ⟨rfl, hb5⟩; (have HPA := Lib.hid (PAll.below ⟨_, _, _, _, HP4.out, HS4.out, HT2.out⟩ hb5 : PAll g W5 r x)); (have HE5 := Lib.hid (HE4.out.below (hb5.mono (by omega) : Below g V W5) h8)); (have HF5 := Lib.hid (HF4.out.trans (hb5.mono (by omega)))); clear hb5 d0 d1 d2 d3)
          have hcc := Lib.hid (soft_p g W5 r x HPA.out hx3 hx1 (by simp at htl; omega))
          rcases hq : softQ x.doms r with ⟨p, y⟩ | ⟨d, r5⟩
          · have HR : Hid (stmtQ x (t :: r) = .error (p, y)) := Lib.hid ((HLQ2.out [] [] (p, y)).1 hq)
            rw [hq] at hcc
            clear hq
            refine hcc.out.mono ?_
            rintro e w' ⟨he, hg⟩
            obtain rfl : e = wrongs p y := he
            refine ⟨rfl, ?_⟩
            rw [HR.out]
            exact ⟨rfl, HF5.out.trans hg⟩
          · have HLQ3 := Lib.hid (fun r2 e => (HLQ2.out r5 r2 e).2 d hq)
            rw [hq] at hcc
            clear hq
            refine hcc.out.mono ?_
            rintro e W6 ⟨⟨rfl, hp6⟩, hg6⟩
            obtain ⟨t6, r6, rfl⟩ := hp6.toks.cons
            obtain ⟨dv6, hv6, sv6, ok6, hp6, hst6, hT6⟩ := hp6
            have hsg := Lib.hid (sign_q g W6 t6 r6 _ _ _ [59] hp6 hT6)
            have HST6 := Lib.hid hst6
            have hgw6 := hp6.lt
            have HF6 := Lib.hid (HF5.out.trans hg6)
            clear hp6 hst6 hT6 hg6 hcc
            rcases hq : signQ [59] (t6 :: r6) with ⟨p, y⟩ | ⟨u0, r7⟩
            · have HR : Hid (stmtQ x (t :: r) = .error (p, y)) := Lib.hid ((HLQ3.out [] (p, y)).1 hq)
              rw [hq] at hsg
              clear hq
              go_wp2_with (go_at_call 75; refine hsg.out.mono ?_; rintro e w' ⟨he, hg⟩; obtain rfl : e = wrongs p y := he; refine ⟨rfl, ?_⟩; rw [HR.out]; exact ⟨rfl, HF6.out.trans (hg.below (fun k hk e => by omega) (by omega))⟩)
            · have HR := Lib.hid ((HLQ3.out r7 (0, 0)).2 hq)
              rw [hq] at hsg
              clear hq
              go_wp2_with (go_at_call 75; refine hsg.out.mono ?_; rintro e w' ⟨⟨rfl, hp7, hT7⟩, hg⟩; (have HPF := Lib.hid (show PAll g w' r7 _ from ⟨_, _, _, _, hp7, (HST6.out.chg hg (fun k hk => by omega)).later hg.size, hT7⟩)); (have HFF := Lib.hid (HF6.out.trans (hg.below (B := g) (fun k hk e => by omega) (by omega)))); clear hp7 hT7 hg)
              go_end0
              rw [HR.out]
              exact ⟨⟨rfl, HPF.out⟩, HFF.out⟩
      · have hvb : (tb.toList == [118, 97, 114]) = false := by rw [← HVT.out]; simpa using hv
        have hsb : (tb.toList == [115, 111, 102, 116]) = false := by rw [← HSF.out]; simpa using hs
        have HV := Lib.hid hv
        have HS := Lib.hid hs
        by_cases hw : 0 < kw
        · have hwb : decide (0 < kw) = true := by simpa using hw
          have HW := Lib.hid hw
          have HK := Lib.hid hk
          have hKV := True.intro
          clear hv hs HSF HVT hw
          obtain ⟨VA, Vc, hvv, _, _, _⟩ := HS2.out.H.sl (by omega)
          subst hvv
          have hT2 := HT.out.tail (by omega)
          have hpp := HP2.out
          rw [if_neg (by omega)] at hpp
          have HP3 := Lib.hid hpp
          have HT2 := Lib.hid hT2
          have HLQ := Lib.hid (fun (r' r2 : List Tok) (e : Int × Int) => stmtQ_hard HKW.out HK.out HW.out HV.out HS.out (x := x) (r := r) (r' := r') (r2 := r2) (e := e) (u := ()))
          clear hT2 hpp HT HP2 hk hKV
          go_wp2_with (go_at_call 71; refine (must_yes _ _ _ _ _ _ _ (by first | rfl | assumption)).mono ?_; rintro e W3 ⟨rfl, hb3⟩; (have HB3 := Lib.hid (hb3.trans (Below.drew (Below.refl W3.heap.size W3) |>.mono hb3.size))); (have HX3 := Lib.hid (block_kept hb3 hX.out)); (have e0 := cell_at HX3.out (i := 0) rfl); (have e1 := cell_at HX3.out (i := 1) rfl); (have e2 := cell_at HX3.out (i := 2) rfl); (have e3 := cell_at HX3.out (i := 3) rfl); clear hb3 d0 d1 d2 d3)
          have hX4 : W3.drew.heap[k1]? = _ := HX3.out
          have hP4 := HP3.out.grown (below_grown0 HB3.out none) (by simp)
          have hS4 := (HS2.out.chg (chg_of_below HB3.out (fun _ => False)) (fun _ h => h.elim)).later HB3.out.size
          have hE4 := HE2.out.below (HB3.out.mono (by have := HF2.out.size; omega) : Below g W W3.drew) h8
          have hF4 := HF2.out.trans (HB3.out.mono (by have := HF2.out.size; omega) : Below g W W3.drew)
          obtain ⟨A4, n4, c4, hb4, _⟩ := hP4
          have g1 := cell_at hb4 (i := 2) rfl
          have HP4 := Lib.hid (show PB g W3.drew r _ _ _ from ⟨A4, n4, c4, hb4, by assumption⟩)
          have HS4 := Lib.hid hS4
          have HE4 := Lib.hid hE4
          have HF4 := Lib.hid hF4
          have HX4 := Lib.hid hX4
          have d0 := cell_at hX4 (i := 0) rfl
          have d1 := cell_at hX4 (i := 1) rfl
          have d2 := cell_at hX4 (i := 2) rfl
          have d3 := cell_at hX4 (i := 3) rfl
          clear hb4 hX4 hS4 hE4 hF4 HB3 HX3 HP3 HS2 HE2 HF2 hX HHW e0 e1 e2 e3
          refine wp_region_still_tail 8 (by kernel_rfl) (by kernel_rfl) ?_
          change wpStill _ _ (World.drew W3) (fun a' => wpList _ _ _ _ a' (World.drew W3)) _ _
          generalize World.drew W3 = V at *
          simp only [List.take_succ_cons, List.take_zero, List.drop_succ_cons, List.drop_zero]
          repeat (first | (refine still_plain rfl (fun K hK => ?_); go_simp; refine hK _ ?_; clear hK K) | (refine still_off _ _ _ _ _ rfl rfl rfl rfl rfl (fun K hK => ?_); go_simp; refine hK _ ?_; clear hK K) | (refine still_on _ _ _ _ rfl rfl rfl rfl (fun K hK => ?_); go_simp; refine hK _ ?_; clear hK K) | (refine still_dead _ _ _ _ rfl rfl rfl rfl (fun K hK => ?_); go_simp; refine hK _ ?_; clear hK K))
          refine wpStill_nil ?_
          have hgv : g < V.heap.size := HP4.out.lt
          by_cases hmany : 200 ≤ x.hard.length
          · have HR : Hid (stmtQ x (t :: r) = .error (t.at_, 7)) := Lib.hid ((HLQ.out [] [] (0, 0)).1 hmany)
            have hbb : decide (x.hard.length < 200) = false := by simpa using hmany
            go_wp2_with (go_at_call 71; refine (must_no _ _ _ _ _ _ _ (by first | rfl | (simp; omega))).mono ?_; rintro e W5 ⟨rfl, hb5⟩; refine ⟨rfl, ?_⟩; rw [HR.out]; exact ⟨rfl, HF4.out.trans (hb5.mono (by omega))⟩)
          · have hbb : decide (x.hard.length < 200) = true := by simpa using hmany
            have HLQ2 := Lib.hid (fun r' r2 e => (HLQ.out r' r2 e).2 hmany)
            have hm2 : x.hard.length < 200 := by omega
            clear HLQ hmany
            go_wp2_with (go_at_call 71; refine (must_yes _ _ _ _ _ _ _ (by first | rfl | (simp; omega))).mono ?_; rintro e W5 ⟨rfl, hb5⟩; (have HPA := Lib.hid (PAll.below ⟨_, _, _, _, HP4.out, HS4.out, HT2.out⟩ hb5 : PAll g W5 r x)); (have HE5 := Lib.hid (HE4.out.below (hb5.mono (by omega) : Below g V W5) h8)); (have HF5 := Lib.hid (HF4.out.trans (hb5.mono (by omega)))); clear hb5 d0 d1 d2 d3)
            have hcc := Lib.hid (hard_p g W5 r x kw HPA.out hx2 hx1 (by simp at htl; omega) HE5.out.hows h8)
            rcases hq : hardQ x.doms kw r with ⟨p, y⟩ | ⟨d, r5⟩
            · have HR : Hid (stmtQ x (t :: r) = .error (p, y)) := Lib.hid ((HLQ2.out [] [] (p, y)).1 hq)
              rw [hq] at hcc
              clear hq
              refine hcc.out.mono ?_
              rintro e w' ⟨he, hg⟩
              obtain rfl : e = wrongs p y := he
              refine ⟨rfl, ?_⟩
              rw [HR.out]
              exact ⟨rfl, HF5.out.trans hg⟩
            · have HLQ3 := Lib.hid (fun r2 e => (HLQ2.out r5 r2 e).2 d hq)
              rw [hq] at hcc
              clear hq
              refine hcc.out.mono ?_
              rintro e W6 ⟨⟨rfl, hp6⟩, hg6⟩
              obtain ⟨t6, r6, rfl⟩ := hp6.toks.cons
              obtain ⟨dv6, hv6, sv6, ok6, hp6, hst6, hT6⟩ := hp6
              have hsg := Lib.hid (sign_q g W6 t6 r6 _ _ _ [59] hp6 hT6)
              have HST6 := Lib.hid hst6
              have hgw6 := hp6.lt
              have HF6 := Lib.hid (HF5.out.trans hg6)
              clear hp6 hst6 hT6 hg6 hcc
              rcases hq : signQ [59] (t6 :: r6) with ⟨p, y⟩ | ⟨u0, r7⟩
              · have HR : Hid (stmtQ x (t :: r) = .error (p, y)) := Lib.hid ((HLQ3.out [] (p, y)).1 hq)
                rw [hq] at hsg
                clear hq
                go_wp2_with (go_at_call 75; refine hsg.out.mono ?_; rintro e w' ⟨he, hg⟩; obtain rfl : e = wrongs p y := he; refine ⟨rfl, ?_⟩; rw [HR.out]; exact ⟨rfl, HF6.out.trans (hg.below (fun k hk e => by omega) (by omega))⟩)
              · have HR := Lib.hid ((HLQ3.out r7 (0, 0)).2 hq)
                rw [hq] at hsg
                clear hq
                go_wp2_with (go_at_call 75; refine hsg.out.mono ?_; rintro e w' ⟨⟨rfl, hp7, hT7⟩, hg⟩; (have HPF := Lib.hid (show PAll g w' r7 _ from ⟨_, _, _, _, hp7, (HST6.out.chg hg (fun k hk => by omega)).later hg.size, hT7⟩)); (have HFF := Lib.hid (HF6.out.trans (hg.below (B := g) (fun k hk e => by omega) (by omega)))); clear hp7 hT7 hg)
                go_end0
                rw [HR.out]
                exact ⟨⟨rfl, HPF.out⟩, HFF.out⟩
        · have hwb : decide (0 < kw) = false := by simpa using hw
          have HR : Hid (stmtQ x (t :: r) = .error (t.at_, 3)) := Lib.hid (stmtQ_bad (fun h => by rcases h.2 with h | h | h; exact hw (HKW.out ▸ h); exact hv h; exact hs h))
          clear hw hv hs hk
          go_wp2_with (go_at_call 71; refine (must_no _ _ _ _ _ _ _ (by first | rfl | assumption)).mono ?_; rintro e W5 ⟨rfl, hb5⟩; refine ⟨rfl, ?_⟩; rw [HR.out]; exact ⟨rfl, HF2.out.trans (hb5.mono (by have := HF2.out.size; omega))⟩)
  · have hkb : (t.kind == 1) = false := by simpa using hk
    have HR : Hid (stmtQ x (t :: r) = .error (t.at_, 3)) := Lib.hid (stmtQ_bad (fun h => hk h.1))
    clear hk
    go_wp2_with (go_at_call 71; refine (must_no _ _ _ _ _ _ _ (by first | rfl | assumption)).mono ?_; rintro e W5 ⟨rfl, hb5⟩; refine ⟨rfl, ?_⟩; rw [HR.out]; exact ⟨rfl, HF2.out.trans (hb5.mono (by have := HF2.out.size; omega))⟩)
end Go.Proofs.YtoahaigfjfeopaaGreatDoor
