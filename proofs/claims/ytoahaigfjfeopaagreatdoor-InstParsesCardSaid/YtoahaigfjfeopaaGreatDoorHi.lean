/- Texts joined: Pqf Wbs Pqg Pqh Wbt Wbu Waq Wbv. -/
import Derived.Test.YtoahaigfjfeopaaGreatDoorHh
import Derived.Test.YtoahaigfjfeopaaGreatDoorHd
import Derived.Test.YtoahaigfjfeopaaGreatDoorHf
import Derived.Test.YtoahaigfjfeopaaGreatDoorHe
/- What the reference's parser computes: soft constraints. No program, no memory. -/
namespace Go.Proofs.YtoahaigfjfeopaaGreatDoor

/-- A cost behind a row; what there is, then. -/
def costF (toks : List Tok) (s : RS) : RS := if s.e = 0 then numberF toks 1000000000000 s else s
def costL (toks : List Tok) (costs : List Int) (s : RS) : List Int := if s.e = 0 then costs ++ [(tkF toks s).n] else costs
def dfltF (toks : List Tok) (s : RS) : Int := if s.e = 0 then (tkF toks s).n else 0
section
variable {toks : List Tok} {s s0 s1 : RS} {doms : List (List Int)} {scope t costs : List Int} {rows : List (List Int)}
theorem cost_i (hi : s.i < toks.length) : (costF toks s).i < toks.length := by
  unfold costF; split
  · exact number_i _ hi
  · exact hi
theorem cost_kept : Kept s (costF toks s) := by
  unfold costF; split
  · exact number_kept _
  · exact Kept.refl _
theorem costL_len : (costL toks costs s).length ≤ costs.length + 1 := by unfold costL; split <;> simp
/-- Ahead of a round of a soft constraint. -/
structure SftI (toks : List Tok) (doms : List (List Int)) (scope : List Int) (s1 : RS) (rows : List (List Int)) (costs : List Int) (s : RS) : Prop where
  kept : Kept s1 s
  len : rows.length ≤ s.i ∧ costs.length ≤ s.i
  good : s.e = 0 → ∃ n, toks.length - s.i < n ∧ costsQ doms scope ((toks.drop s1.i).length + 1) [] [] (toks.drop s1.i) = costsQ doms scope n rows costs (toks.drop s.i)
  bad : s1.e = 0 → s.e ≠ 0 → costsQ doms scope ((toks.drop s1.i).length + 1) [] [] (toks.drop s1.i) = .error (s.a, s.e)
theorem sft_first : SftI toks doms scope s1 [] [] s1 := ⟨Kept.refl _, ⟨Nat.zero_le _, Nat.zero_le _⟩, fun _ => ⟨_, by rw [List.length_drop]; omega, rfl⟩, fun h h' => absurd h h'⟩
/-- Behind the rows of a soft constraint. -/
def SftP (toks : List Tok) (doms : List (List Int)) (scope : List Int) (s1 : RS) (rows : List (List Int)) (costs : List Int) (s : RS) : Prop :=
  Kept s1 s ∧ rows.length ≤ 200000 ∧ costs.length ≤ 200000 ∧ (s1.e = 0 → Ag toks s (costsQ doms scope ((toks.drop s1.i).length + 1) [] [] (toks.drop s1.i)) (fun r => r = (rows, costs)))
theorem sft_out (hT : TokR toks) (h : SftI toks doms scope s1 rows costs s) (hi : s.i < toks.length) (he : s.e ≠ 0) : SftP toks doms scope s1 rows costs s :=
  ⟨h.kept, by have := h.len; have := hT.len; omega, by have := h.len; have := hT.len; omega, fun h1 => by rw [h.bad h1 he]; exact ⟨rfl, rfl, he⟩⟩
theorem sft_last (hT : TokR toks) (h : SftI toks doms scope s1 rows costs s) (hi : s.i < toks.length) (he : s.e = 0) (hm : isF toks [44] s = false) : SftP toks doms scope s1 rows costs s := by
  refine ⟨h.kept, by have := h.len; have := hT.len; omega, by have := h.len; have := hT.len; omega, fun _ => ?_⟩
  obtain ⟨n, hn, hq⟩ := h.good he
  obtain ⟨n, rfl⟩ : ∃ m, n = m + 1 := ⟨n - 1, by omega⟩
  rw [is_eq hT hi (by simp)] at hm
  rw [hq, costsQ, drop_tk hi, isQ]
  simp only [hm]
  exact ⟨he, (drop_tk hi).symm, rfl⟩
theorem sft_step (hT : TokR toks) (h : SftI toks doms scope s1 rows costs s) (hi : s.i < toks.length) (he : s.e = 0) (hm : isF toks [44] s = true) {s2 : RS} (hi2 : s2.i < toks.length) (hr : RowP toks doms scope rows (nextF toks s) t s2) :
    SftI toks doms scope s1 (rows ++ [t]) (costL toks costs s2) (costF toks s2) ∧ s.i < (costF toks s2).i := by
  obtain ⟨n, hn, hq⟩ := h.good he
  obtain ⟨n, rfl⟩ : ∃ m, n = m + 1 := ⟨n - 1, by omega⟩
  rw [is_eq hT hi (by simp)] at hm
  have h4 : (tkF toks s).kind ≠ 4 := by intro h4; simp [isP, h4] at hm
  have hadv := next_adv hT hi h4
  have hQ : isQ [44] (toks.drop s.i) = (true, toks.drop (s.i + 1)) := by rw [drop_tk hi, isQ]; simp [hm]
  have hq2 : costsQ doms scope (n + 1) rows costs (toks.drop s.i) = match rowQ doms scope rows (toks.drop (s.i + 1)) with
      | .error e => .error e
      | .ok (rows', r) => match numberQ 1000000000000 r with
        | .error e => .error e
        | .ok (t, r') => costsQ doms scope n rows' (costs ++ [t.n]) r' := by rw [costsQ, hQ]; rfl
  rw [hq2] at hq
  have hk1 : Kept s (nextF toks s) := next_kept
  rw [hadv.1] at hr hk1
  have he' : (⟨s.i + 1, s.a, s.e⟩ : RS).e = 0 := he
  have ha := hr.2.2 he'
  have hle : s.i + 1 ≤ s2.i := hr.1.1
  have hck := cost_kept (toks := toks) (s := s2)
  have hcl := costL_len (toks := toks) (costs := costs) (s := s2)
  have hlen := h.len
  have hle2 := hck.1
  refine ⟨⟨((h.kept.trans hk1).trans hr.1).trans hck, ⟨by simp; omega, by omega⟩, fun he3 => ?_, fun h1 he3 => ?_⟩, by omega⟩
  · have he2 := hck.ok he3
    obtain ⟨v, hv, rfl, _⟩ := ag_good ha he2
    have hn2 := number_law hT hi2 he2 1000000000000
    have hcf : costF toks s2 = numberF toks 1000000000000 s2 := by unfold costF; rw [if_pos he2]
    have hcl2 : costL toks costs s2 = costs ++ [(tkF toks s2).n] := by unfold costL; rw [if_pos he2]
    rw [hcf] at he3 hle2 ⊢
    obtain ⟨u, hu, rfl, _⟩ := ag_good hn2 he3
    refine ⟨n, by omega, ?_⟩
    rw [hq, hv]
    simp only
    rw [hu, hcl2]
  · by_cases he2 : s2.e = 0
    · obtain ⟨v, hv, rfl, _⟩ := ag_good ha he2
      have hn2 := number_law hT hi2 he2 1000000000000
      have hcf : costF toks s2 = numberF toks 1000000000000 s2 := by unfold costF; rw [if_pos he2]
      rw [hcf] at he3 ⊢
      rw [hq, hv]
      simp only
      rw [ag_bad hn2 he3]
    · have hcf : costF toks s2 = s2 := by unfold costF; rw [if_neg he2]
      rw [hcf, hq, ag_bad ha he2]
theorem soft_law (hT : TokR toks) {sA s : RS} (hA : sA.i < toks.length) (hs : ScoP toks doms.length s0 scope sA) (h : SftP toks doms scope (costF toks (signF toks [58] sA)) rows costs s) (hi : s.i < toks.length) (h0 : s0.e = 0) :
    Ag toks (signF toks [59] s) (thenSign (softQ doms (toks.drop s0.i))) (fun r => r = ⟨scope, rows, costs, dfltF toks (signF toks [58] sA)⟩) := by
  refine ag_sign hT hi ?_
  have ha := hs.2.2.2 h0
  have hi1 := sign_i (toks := toks) [58] hA
  have k1 : Kept sA (signF toks [58] sA) := sign_kept _
  have k2 := cost_kept (toks := toks) (s := signF toks [58] sA)
  have hbad : ∀ u : RS, Kept u s → u.e ≠ 0 → s.a = u.a ∧ s.e = u.e ∧ u.e ≠ 0 := fun u hk hu => ⟨(hk.2 hu).1, (hk.2 hu).2, hu⟩
  rw [softQ]
  by_cases hAe : sA.e = 0
  · obtain ⟨v, hv, rfl, _⟩ := ag_good ha hAe
    rw [hv]
    simp only
    have hsl := sign_law hT hA hAe (str := [58]) (by simp)
    by_cases h1 : (signF toks [58] sA).e = 0
    · obtain ⟨u, hu, _⟩ := ag_good hsl h1
      rw [hu]
      simp only
      have hn := number_law hT hi1 h1 1000000000000
      have hcf : costF toks (signF toks [58] sA) = numberF toks 1000000000000 (signF toks [58] sA) := by unfold costF; rw [if_pos h1]
      have hdf : dfltF toks (signF toks [58] sA) = (tkF toks (signF toks [58] sA)).n := by unfold dfltF; rw [if_pos h1]
      rw [hcf] at h
      by_cases h2 : (numberF toks 1000000000000 (signF toks [58] sA)).e = 0
      · obtain ⟨u, hu, rfl, _⟩ := ag_good hn h2
        rw [hu]
        simp only
        have hc := h.2.2.2 h2
        by_cases he : s.e = 0
        · obtain ⟨u, hu, rfl⟩ := ag_good hc he
          rw [hu, hdf]
          exact ⟨he, rfl, rfl⟩
        · rw [ag_bad hc he]
          exact ⟨rfl, rfl, he⟩
      · rw [ag_bad hn h2]
        exact hbad _ h.1 h2
    · rw [ag_bad hsl h1]
      exact hbad _ (k2.trans h.1) h1
  · rw [ag_bad ha hAe]
    exact hbad _ ((k1.trans k2).trans h.1) hAe
end
end Go.Proofs.YtoahaigfjfeopaaGreatDoor

/- arboristref06.parser: softs. -/
namespace Go.Proofs.YtoahaigfjfeopaaGreatDoor
open Go.RowKit
attribute [local irreducible] wpStill wpLex wpLexO wpPlan Calls

/-- A soft constraint in its box, its rows and costs of the call's own. -/
structure SfS (gc : Nat) (w : World) (vs rv cv : Value) (rows : List (List Int)) (costs : List Int) (okR : Nat → Prop) (dd : Int) : Prop where
  con : SftAt gc w vs rv cv dd
  own : OwnD kRow 41 (gc + 1) okR rv rows w
  okr : ∀ k, okR k → gc < k ∧ k < w.heap.size
  cst : OwnC (gc + 1) cv costs w
  ap : ∀ k, cv.ownBlock = some k → ¬ okR k
section
variable {g gc : Nat} {a b w : World} {vs rv cv v : Value} {rows : List (List Int)} {costs : List Int} {okR : Nat → Prop} {dd : Int}
theorem SfS.chg {S : Nat → Prop} (h : SfS gc a vs rv cv rows costs okR dd) (hc : Chg S a b) (hs : ∀ k, S k → k < gc) : SfS gc b vs rv cv rows costs okR dd :=
  ⟨hc.heap h.con (fun e => by have := hs _ e; omega), h.own.chg hc (fun k hk e => by have := hs _ e; have := h.okr k hk; omega) (fun k hk e => by have := hs _ e; have := h.own.own k hk; omega), fun k hk => ⟨(h.okr k hk).1, Nat.lt_of_lt_of_le (h.okr k hk).2 hc.size⟩, h.cst.chg hc (fun _ h => h.elim) (fun k hk e => by have := hs _ e; have := h.cst.own k hk; omega), h.ap⟩
theorem SfS.below (h : SfS gc a vs rv cv rows costs okR dd) (hb : Below a.heap.size a b) : SfS gc b vs rv cv rows costs okR dd :=
  ⟨block_kept hb h.con, h.own.chg (chg_of_below hb (fun _ => False)) (fun _ _ h => h) (fun _ _ h => h), fun k hk => ⟨(h.okr k hk).1, Nat.lt_of_lt_of_le (h.okr k hk).2 hb.size⟩, h.cst.chg (chg_of_below hb (fun _ => False)) (fun _ h => h.elim) (fun _ _ h => h), h.ap⟩
/-- More rows. -/
theorem SfS.moreR {rows2 : List (List Int)} {okR2 : Nat → Prop} (h : SfS gc w vs rv cv rows costs okR dd) (hg : w.grownBy b rv.ownBlock) (ho : OwnD kRow 41 (gc + 1) okR2 v rows2 b) (hk : ∀ k, okR2 k → gc < k ∧ k < b.heap.size) (hap : ∀ k, cv.ownBlock = some k → ¬ okR2 k) : SfS gc (b.setCell ⟨gc, 1, none⟩ v) vs v cv rows2 costs okR2 dd := by
  have hc := chg_of_grown hg
  have h1 := hc.heap h.con (fun e => by have := (h.own.own gc e).1; omega)
  exact ⟨by unfold SftAt; simp [World.setCell, Array.getElem?_modify, h1], ho.chg (chg_setCell b gc 1 v) (fun k hkk e => by have := hk k hkk; omega) (fun k hkk e => by have := ho.own k hkk; omega),
    fun k hkk => ⟨(hk k hkk).1, by rw [Go.Deep.nblk_setCell]; exact (hk k hkk).2⟩,
    (h.cst.chg hc (fun _ h => h.elim) (fun k hkk e => h.own.apart h.cst (by decide) k e hkk)).chg (chg_setCell b gc 1 v) (fun _ h => h.elim) (fun k hkk e => by have := h.cst.own k hkk; omega), hap⟩
/-- More costs. -/
theorem SfS.more {costs2 : List Int} (h : SfS gc w vs rv cv rows costs okR dd) (hg : w.grownBy b cv.ownBlock) (ho : OwnC (gc + 1) v costs2 b) (hat : v.ownBlock = cv.ownBlock ∨ ∃ k, v.ownBlock = some k ∧ w.heap.size ≤ k) : SfS gc (b.setCell ⟨gc, 2, none⟩ v) vs rv v rows costs2 okR dd := by
  have hc := chg_of_grown hg
  have h1 := hc.heap h.con (fun e => by have := (h.cst.own gc e).1; omega)
  refine ⟨by unfold SftAt; simp [World.setCell, Array.getElem?_modify, h1], (h.own.chg hc (fun k hkk e => h.ap k e hkk) (fun k hkk e => h.own.apart h.cst (by decide) k hkk e)).chg (chg_setCell b gc 2 v) (fun k hkk e => by have := h.okr k hkk; omega) (fun k hkk e => by have := h.own.own k hkk; omega),
    fun k hkk => ⟨(h.okr k hkk).1, by rw [Go.Deep.nblk_setCell]; exact Nat.lt_of_lt_of_le (h.okr k hkk).2 hc.size⟩,
    ho.chg (chg_setCell b gc 2 v) (fun _ h => h.elim) (fun k hkk e => by have := ho.own k hkk; omega), fun k hk hkk => ?_⟩
  rcases hat with hat | ⟨k', hat, hk'⟩
  · exact h.ap k (hat ▸ hk) hkk
  · rw [hat] at hk; injection hk with hk; have := (h.okr k hkk).2; omega
end
def SfRel (g gc : Nat) (w : World) (toks : List Tok) (doms : List (List Int)) (sc : List Int) (s1 : RS) (vs dv hv sv : Value) (dd : Int) (gm : Nat) (wr : World) : Prop :=
  ∃ (rows : List (List Int)) (costs : List Int) (rv cv : Value) (okR : Nat → Prop) (s : RS), Hid (SfS gc wr vs rv cv rows costs okR dd) ∧ Hid (RB g wr toks s dv hv sv) ∧ Hid (Chg (fun k => k = g ∨ k = gc) w wr) ∧ Hid (SftI toks doms sc s1 rows costs s) ∧ gm = toks.length - s.i
def SfMid (g gc : Nat) (w : World) (toks : List Tok) (doms : List (List Int)) (sc : List Int) (s1 : RS) (vs dv hv sv : Value) (dd : Int) (wx : World) : Prop :=
  ∃ (rows : List (List Int)) (costs : List Int) (rv cv : Value) (okR : Nat → Prop) (s : RS), SfS gc wx vs rv cv rows costs okR dd ∧ RB g wx toks s dv hv sv ∧ Chg (fun k => k = g ∨ k = gc) w wx ∧ SftP toks doms sc s1 rows costs s
def SfR (g : Nat) (w w' : World) (toks : List Tok) (s0 : RS) (x : Ins) (e : Ending) : Prop :=
  ∃ (c : Sft) (s : RS), e = .returned (.tuple #[]) ∧ RAll g w' toks s { x with soft := x.soft ++ [c] } ∧ Below g w w' ∧ Kept s0 s ∧ (s0.e = 0 → Ag toks s (thenSign (softQ x.doms (toks.drop s0.i))) (fun c' => c' = c))
set_option maxRecDepth 100000 in
set_option maxHeartbeats 8000000 in
theorem softs_r (g : Nat) (w : World) (toks : List Tok) (s : RS) (x : Ins) (hT : TokR toks) (h : RAll g w toks s x) (hx : x.soft.length ≤ 1000) (hd : x.doms.length ≤ 1000) :
    Calls Tryz.prog 83 #[.pointer (some ⟨g, 0, none⟩)] w fun e w' => SfR g w w' toks s x e := by
  obtain ⟨dv, hv, sv, ok, h, hst⟩ := h
  have hgw := h.lt
  have HT := Lib.hid hT
  have HST := Lib.hid hst
  have hD0 := hst.D.sl (by omega)
  have hDg0 : ∀ k, (ok k ∨ dv.ownBlock = some k) → g < k ∧ k < w.heap.size := fun k hk => by
    rcases hk with hk | hk
    · exact hst.okg k hk
    · have := hst.D.own k hk; omega
  obtain ⟨DA, Dc, rfl, _, _, _⟩ := hD0
  have HD0 := Lib.hid (hst.D.sl (by omega))
  have HDG := Lib.hid hDg0
  have HSC := Lib.hid (scope_r g w toks s DA x.doms.length Dc hv sv hT (by omega) h)
  obtain ⟨iR, hiR, hR0, hR1, hR2⟩ := info_parts (show (Tryz.prog.info? 41).map (fun i => (i.zero, i.size, i.bytes)) = some (some (.slice none 0 0), 1, 24) by kernel_rfl)
  obtain ⟨i6, hi6, h60, h61, h62⟩ := info_parts (show (Tryz.prog.info? 2).map (fun i => (i.zero, i.size, i.bytes)) = some (some (.int .i64 0), 1, 8) by kernel_rfl)
  clear h hT hst hDg0
  go_enter Tryz.func83, Tryz.ntmps83
  go_upto_region 1 with (go_at_call 85; refine HSC.out.mono ?_; rintro e W1 ⟨sc, sA, vs, rfl, ho, hp, hc, hpp⟩; (have HO := Lib.hid ho); (have HP := Lib.hid hp); (have HC := Lib.hid hc); (have HPP := Lib.hid hpp); (obtain ⟨SA, Sc, rfl, _, _, _⟩ := ho.sl (by have := hpp.2.2.1; omega)); clear ho hp hc hpp HSC)
  have hal := below_alloc1 W1 (.cells #[.slice SA sc.length Sc, .slice none 0 0, .slice none 0 0, .int .i64 0] 47)
  have HTS : Hid (SfS W1.heap.size (W1.alloc (.cells #[.slice SA sc.length Sc, .slice none 0 0, .slice none 0 0, .int .i64 0] 47)) (.slice SA sc.length Sc) (.slice none 0 0) (.slice none 0 0) [] [] (fun _ => False) 0) := Lib.hid ⟨heap_alloc_new W1 _, OwnD.nil _ _ _ _ _, fun _ h => h.elim, OwnD.nil _ _ _ _ _, fun k h => by simp [Value.ownBlock] at h⟩
  have HP1 := Lib.hid (HP.out.below hal)
  have HG1 := Lib.hid (HC.out.thenBelow hal)
  have HD := Lib.hid (HD0.out.chg (by decide) HG1.out (fun k hk => by have := HDG.out k hk; omega))
  have HS := Lib.hid ((HO.out.done (by have := HPP.out.2.2.1; omega) (Nat.le_refl _)).below (by decide) hal)
  have hgc := HC.out.size
  have hgb : (W1.alloc (.cells #[.slice SA sc.length Sc, .slice none 0 0, .slice none 0 0, .int .i64 0] 47)).heap.size = W1.heap.size + 1 := by simp
  clear hal HP HC HO HD0
  generalize W1.alloc (.cells #[.slice SA sc.length Sc, .slice none 0 0, .slice none 0 0, .int .i64 0] 47) = Wb at *
  generalize W1.heap.size = gc at *
  have hsA := HP1.out.idx
  go_upto_region 2 with (go_at_call 86; refine (sign_r g _ toks sA _ hv sv [58] HP1.out).mono ?_; rintro e W2 ⟨rfl, hp, hc⟩; (have HP2 := Lib.hid hp); (have HT2 := Lib.hid (HTS.out.chg hc (by omega))); (have HC2 : Hid (Chg (fun k => k = g ∨ k = gc) Wb W2) := Lib.hid (hc.mono (fun _ _ h => Or.inl h))); clear hp hc HTS HP1)
  have hi1 := HP2.out.idx
  have p6 := HP2.out.cell6
  go_upto_if 13 with fail
  go_cut [] from 13 to 16 (fun wx => ∃ dd, dd = dfltF toks (signF toks [58] sA) ∧ SfS gc wx (.slice SA sc.length Sc) (.slice none 0 0) (.slice none 0 0) [] [] (fun _ => False) dd ∧ RB g wx toks (costF toks (signF toks [58] sA)) (.slice DA x.doms.length Dc) hv sv ∧ Chg (fun k => k = g ∨ k = gc) Wb wx)
  case first =>
    generalize signF toks [58] sA = s1 at *
    by_cases he : s1.e = 0
    · have hd1 : (s1.e == 0) = true := by simp [he]
      have HF : Hid (costF toks s1 = numberF toks 1000000000000 s1) := Lib.hid (by unfold costF; rw [if_pos he])
      have HA : Hid (dfltF toks s1 = (tkF toks s1).n) := Lib.hid (by unfold dfltF; rw [if_pos he])
      clear he
      go_wp2_with (go_at_call 108; refine (number_r g _ toks s1 _ hv sv 1000000000000 (by decide) (by decide) HP2.out).mono ?_; rintro e W3 ⟨rfl, hp, hc⟩; (have HP3 := Lib.hid hp); (have HT3 := Lib.hid (HT2.out.chg hc (by omega))); (have HC3 := Lib.hid (HC2.out.trans hc (fun _ _ h => Or.inl h))); (have y3 := cell_at HT3.out.con (i := 3) rfl); (have yf := Lib.frozen_of_heap HT3.out.con 3); clear hp hc)
      go_meet
      case rel =>
        refine ⟨_, HA.out.symm, ⟨?_, HT3.out.own.chg (chg_setCell W3 gc 3 _) (fun _ h => h.elim) (fun k hk e => by have := HT3.out.own.own k hk; omega), fun _ h => h.elim, HT3.out.cst.chg (chg_setCell W3 gc 3 _) (fun _ h => h.elim) (fun k hk e => by have := HT3.out.cst.own k hk; omega), fun k h => by simp [Value.ownBlock] at h⟩, ?_, HC3.out.trans (chg_setCell W3 gc 3 _) (fun _ _ h => Or.inr h)⟩
        · have := HT3.out.con
          unfold SftAt at this ⊢; simp [World.setCell, Array.getElem?_modify, this]
        · rw [HF.out]; exact HP3.out.chg (chg_setCell W3 gc 3 _) (fun k hk e => by omega)
    · have hd1 : (s1.e == 0) = false := by simp [he]
      have HF : Hid (costF toks s1 = s1) := Lib.hid (by unfold costF; rw [if_neg he])
      have HA : Hid (dfltF toks s1 = 0) := Lib.hid (by unfold dfltF; rw [if_neg he])
      clear he
      go_wp2_with fail
      go_meet
      case rel => exact ⟨0, HA.out.symm, HT2.out, by rw [HF.out]; exact HP2.out, HC2.out⟩
  case rest =>
  clear HP2 HT2 HC2
  obtain ⟨dd, hdd, ht, hp, hc⟩ := hcut
  have HDD := Lib.hid hdd
  have HT3 := Lib.hid ht
  have HP3 := Lib.hid hp
  have HG3 := Lib.hid hc
  have HK3 : Hid (Kept sA (costF toks (signF toks [58] sA))) := Lib.hid ((sign_kept _).trans cost_kept)
  obtain ⟨s3, hs3⟩ : ∃ s3, s3 = costF toks (signF toks [58] sA) := ⟨_, rfl⟩
  rw [← hs3] at HP3 HK3
  have HS3 := Lib.hid hs3
  clear hdd ht hp hc hs3
  go_upto_block 0 with fail
  go_cut [3] from 17 to 50 (fun _ wx => SfMid g gc Wb toks x.doms sc s3 (.slice SA sc.length Sc) (.slice DA x.doms.length Dc) hv sv dd wx)
  case first =>
    go_wp2_with fail
    have hs1i := HP3.out.idx
    have hs7 := HPP.out.2.2.1
    have hlt := HT.out.len
    go_loopg [3] (toks.length - s3.i) (fun gm _ wr => SfRel g gc Wb toks x.doms sc s3 (.slice SA sc.length Sc) (.slice DA x.doms.length Dc) hv sv dd gm wr)
    case atStart => exact ⟨[], [], _, _, _, _, HT3, HP3, HG3, Lib.hid sft_first, rfl⟩
    case round =>
      clear HT3 HP3 HG3 HST
      obtain ⟨rows, costs, rv, cv, okR, q, HTS, HP, HC, HI, hg⟩ := hrel
      have HG := Lib.hid hg
      have p6 := HP.out.cell6
      have hqi := HP.out.idx
      have hrl := HI.out.len
      have hbs := HC.out.size
      obtain ⟨RA, Rc, hrv, _, _, _⟩ := HTS.out.own.sl (by omega)
      obtain ⟨CA, Cc, hcv, _, _, _⟩ := HTS.out.cst.sl (by omega)
      subst hrv hcv
      clear hg
      by_cases he : q.e = 0
      · have hd1 : (q.e == 0) = true := by simp [he]
        have HE := Lib.hid he
        have hsA0 : sA.e = 0 := HK3.out.ok (HI.out.kept.ok he)
        have hsr : ∀ v ∈ sc, 0 ≤ v ∧ v < x.doms.length := by
          obtain ⟨l', hl', he', _, hr⟩ := ag_good (HPP.out.2.2.2 (HPP.out.1.ok hsA0)) hsA0
          exact hr
        have HSR := Lib.hid hsr
        have HIS := Lib.hid (is_r g wr toks q _ hv sv [44] HP.out)
        clear he hsA0 hsr
        cases hm : isF toks [44] q with
        | false =>
          rw [hm] at HIS
          have HZ := Lib.hid (sft_last HT.out HI.out hqi HE.out hm)
          clear hm
          go_wp2_with (go_at_call 107; refine HIS.out.mono ?_; rintro e w9 ⟨rfl, hb⟩; (have HB9 := Lib.hid hb); clear hb)
          go_meet
          case rel => exact ⟨rows, costs, _, _, _, q, HTS.out.below HB9.out, HP.out.below HB9.out, HC.out.thenBelow HB9.out, HZ.out⟩
        | true =>
          rw [hm] at HIS
          have HM := Lib.hid hm
          clear hm
          go_upto_region 8 with (first
            | (go_at_call 107; refine HIS.out.mono ?_; rintro e w9 ⟨rfl, hb⟩; (have HB9 := Lib.hid hb); clear hb)
            | (go_at_call 81; refine (next_r g _ toks q _ hv sv (HP.out.below HB9.out)).mono ?_; rintro e wa ⟨rfl, hp, hc⟩; (have HPa := Lib.hid hp); (have HTa := Lib.hid ((HTS.out.below HB9.out).chg hc (by omega))); (have HCa : Hid (Chg (fun k => k = g ∨ k = gc) Wb wa) := Lib.hid ((HC.out.thenBelow HB9.out).trans hc (fun _ _ h => Or.inl h))); clear hp hc))
          clear HTS HP HC HB9 HIS
          have hdr := Below.drew (Below.refl wa.heap.size wa)
          have HPd := Lib.hid (HPa.out.below hdr)
          have HTd := Lib.hid (HTa.out.below hdr)
          have HCd := Lib.hid HCa.out.drew
          have HRW := Lib.hid (row_r g (World.drew wa) toks (nextF toks q) x.doms DA Dc hv sv _ _ _ sc SA Sc rows _ HT.out HPd.out (HD.out.chg (by decide) HCd.out (fun k hk e => by have := HDG.out k hk; omega)) (fun k hk => by have := HDG.out k hk; omega)
            (HS.out.chg (by decide) HCd.out (fun k hk e => by omega)) (fun k hk => by omega) hs7 (fun _ => HSR.out) (HTd.out.own.sl (by omega)) (fun k hk => by
              rcases hk with hk | hk
              · have := HTd.out.okr k hk; omega
              · have := HTd.out.own.own k hk; omega))
          have c1 : (World.drew wa).cell? ⟨gc, 0, none⟩ = some (.slice SA sc.length Sc) := cell_at HTd.out.con (i := 0) rfl
          have c2 : (World.drew wa).cell? ⟨gc, 1, none⟩ = some (.slice RA rows.length Rc) := cell_at HTd.out.con (i := 1) rfl
          have hbd : Wb.heap.size ≤ (World.drew wa).heap.size := HCd.out.size
          clear hdr HPa HTa HCa p6
          refine wp_region_lex (fun w' => w'.cell? ⟨gc, 0, none⟩ = some (.slice SA sc.length Sc) ∧ w'.cell? ⟨gc, 1, none⟩ = some (.slice RA rows.length Rc)) [true, true, true, true, true, true, true, false, false, false, false, false] (by kernel_rfl) (by kernel_rfl) (fun c a d v w h => by cases d <;> exact h) ?_
          change wpLex _ _ _ _ _ _ _ _ _ (World.drew wa)
          generalize World.drew wa = W at *
          repeat (first | (refine lex_take ⟨c1, c2⟩ rfl (fun w' hw' => by (obtain ⟨u1, u2⟩ := hw'; (try go_simp); try rfl)) (fun K hK => ?_); go_simp; refine hK _ _ ?_; clear hK K) | (refine lex_take_on _ _ _ _ ⟨c1, c2⟩ rfl rfl rfl rfl (fun w' hw' => by (obtain ⟨u1, u2⟩ := hw'; (try go_simp); try rfl)) (fun K hK => ?_); go_simp; refine hK _ _ ?_; clear hK K) | (refine lex_take_off _ _ _ _ _ ⟨c1, c2⟩ rfl rfl rfl rfl rfl (fun K hK => ?_); go_simp; refine hK _ _ ?_; clear hK K))
          refine lex_step rfl (fun K hK => ?_)
          go_wp2_with (go_at_call 109; refine HRW.out.mono ?_; rintro e w4 ⟨t, q2, v4, rfl, ho4, hp4, hc4, hrp⟩)
          have HT4 := Lib.hid (HTd.out.chg hc4 (by omega))
          have HP4 := Lib.hid hp4
          have HC4 : Hid (Chg (fun k => k = g ∨ k = gc) Wb w4) := Lib.hid (HCd.out.trans hc4 (fun _ _ h => Or.inl h))
          have HO4 := Lib.hid ho4
          have HRP := Lib.hid hrp
          have hsz4 := hc4.size
          have htl := hrp.2.1
          have hq2 := hp4.idx
          obtain ⟨TA, Tc, rfl, _, _, _⟩ := ho4.sl (by omega)
          have d1 : w4.cell? ⟨gc, 0, none⟩ = some (.slice SA sc.length Sc) := cell_at HT4.out.con (i := 0) rfl
          have d2 : w4.cell? ⟨gc, 1, none⟩ = some (.slice RA rows.length Rc) := cell_at HT4.out.con (i := 1) rfl
          refine hK _ _ ⟨d1, d2⟩ ?_
          clear hK K ho4 hp4 hc4 hrp c1 c2 HRW
          refine lex_step rfl (fun K hK => ?_)
          go_wp2_with fail
          have hal := below_alloc1 w4 (.cells #[.slice TA t.length Tc] 41)
          refine hK _ _ ⟨cell_kept hal d1, cell_kept hal d2⟩ ?_
          clear hK K d1 d2
          have hgcw := lt_of_block HT4.out.con
          have HT5 := Lib.hid (HT4.out.below hal)
          have HN5 := Lib.hid (HT5.out.own.mono (ok' := fun k => okR k ∨ (W.heap.size ≤ k ∧ k < w4.heap.size)) (fun _ h => Or.inl h) (fun k hk hn => by
            have h1 := HT5.out.own.own k hk
            have h2 := HTd.out.own.own k hk
            rcases hn with hn | hn
            · exact h1.2.2 hn
            · omega))
          have HX5 : Hid (kRow.K (w4.alloc (.cells #[.slice TA t.length Tc] 41)) (fun k => okR k ∨ (W.heap.size ≤ k ∧ k < w4.heap.size)) t [.slice TA t.length Tc]) := Lib.hid ⟨_, rfl, ((HO4.out.done (by omega) (Nat.le_refl _)).below (by decide) hal).mono fun k h => Or.inr h⟩
          have HP5 := Lib.hid (HP4.out.below hal)
          obtain ⟨css, hcs1, hcs2⟩ := HN5.out.open_
          have HCS1 := Lib.hid hcs1
          have HCS2 := Lib.hid hcs2
          clear hcs1 hcs2 hal
          refine lex_step rfl (fun K hK => ?_)
          refine wp_append_lies _ _ _ 22 rfl (gc + 1) 41 iR _ 1 24 Tryz.underlying22 hiR hR0 hR1 hR2 rfl (by decide) (.slice RA rows.length Rc) rows.length css.flatten rfl HCS2.out ⟨_, 0, none⟩ 1 1 [.slice TA t.length Tc] rfl rfl (World.news_of_block (cs := #[.slice TA t.length Tc]) (t := 41) (fr := (0, 0)) (heap_alloc_new w4 _)) (by simp [Value.oneCell']) (by decide) (by simp only [maxLen]; omega) (by omega) (by simp; omega) (w4.heap.size + 1) (by simp) ?_
          intro kb cap V3 hown hgrow hat hltk
          have HON := Lib.hid (OwnD.snoc HCS1.out.1 HCS1.out.2.1 HCS1.out.2.2 HX5.out hgrow hown (hat_of hat (by simp)) (fun k hk => by
            rcases hk with hk | hk
            · have := (HT4.out.okr k hk).2; simp; omega
            · simp; omega))
          have hs3 := hgrow.size
          simp only [World.alloc, Array.size_push] at hs3
          have HT7 := Lib.hid (HT5.out.moreR hgrow HON.out (fun k hk => by
            rcases hk with hk | hk
            · have := HT4.out.okr k hk; omega
            · omega) (fun k hk hn => by
            have h1 := HTd.out.cst.own k hk
            rcases hn with hn | hn
            · exact HTd.out.ap k hk hn
            · omega))
          have HC6 : Hid (Chg (fun k => k = g ∨ k = gc) Wb V3) := Lib.hid ((HC4.out.alloc _).trans (chg_of_grown hgrow) (fun k hk e => by have := (HCS2.out.lt k e).1; omega))
          have HC7 : Hid (Chg (fun k => k = g ∨ k = gc) Wb (V3.setCell ⟨gc, 1, none⟩ (.slice (some ⟨kb, 0, none⟩) (rows.length + 1) cap))) := Lib.hid (HC6.out.trans (chg_setCell V3 gc 1 _) (fun _ _ h => Or.inr h))
          have HP7 := Lib.hid ((HP5.out.chg (chg_of_grown hgrow) (fun k hk e => by have := (HCS2.out.lt k e).1; omega)).chg (chg_setCell V3 gc 1 (.slice (some ⟨kb, 0, none⟩) (rows.length + 1) cap)) (fun k hk e => by omega))
          have hc6 : SftAt gc V3 (.slice SA sc.length Sc) (.slice RA rows.length Rc) (.slice CA costs.length Cc) dd := (chg_of_grown hgrow).heap HT5.out.con (fun e => by have := (HCS2.out.lt gc e).1; omega)
          have e1 : V3.cell? ⟨gc, 0, none⟩ = some (.slice SA sc.length Sc) := cell_at hc6 (i := 0) rfl
          have e2 : V3.cell? ⟨gc, 1, none⟩ = some (.slice RA rows.length Rc) := cell_at hc6 (i := 1) rfl
          have ef := Lib.frozen_of_heap hc6 1
          refine hK _ _ ⟨e1, e2⟩ ?_
          clear hK K hown hat hgrow e1
          have HZ := Lib.hid (sft_step HT.out HI.out hqi HE.out HM.out hq2 HRP.out)
          clear HT4 HP4 HC4 HO4 HN5 HX5 HP5 HCS1 HCS2 HON HC6 hc6 HT5 HPd HTd HCd
          refine lex_list _ _ _ _ _ rfl (by kernel_rfl) ?_
          go_upto_region 9 with fail
          generalize hw7 : V3.setCell ⟨gc, 1, none⟩ (.slice (some ⟨kb, 0, none⟩) (rows.length + 1) cap) = W7 at *
          have p6 := HP7.out.cell6
          have hb7 : Wb.heap.size ≤ W7.heap.size := HC7.out.size
          clear hw7 e2 ef hs3
          by_cases he2 : q2.e = 0
          · have hd2 : (q2.e == 0) = true := by simp [he2]
            have HF : Hid (costF toks q2 = numberF toks 1000000000000 q2) := Lib.hid (by unfold costF; rw [if_pos he2])
            have HA : Hid (costL toks costs q2 = costs ++ [(tkF toks q2).n]) := Lib.hid (by unfold costL; rw [if_pos he2])
            obtain ⟨tn, htn⟩ : ∃ tn, (tkF toks q2).n = tn := ⟨_, rfl⟩
            rw [htn] at HA
            have HTN := Lib.hid htn
            rw [HA.out] at HZ
            clear he2 htn HA
            go_upto_region 10 with fail
            have hdr := Below.drew (Below.refl W7.heap.size W7)
            have HP8 := Lib.hid (HP7.out.below hdr)
            have HT8 := Lib.hid (HT7.out.below hdr)
            have HC8 := Lib.hid HC7.out.drew
            have c1 : (World.drew W7).cell? ⟨gc, 2, none⟩ = some (.slice CA costs.length Cc) := cell_at HT8.out.con (i := 2) rfl
            have hbd2 : Wb.heap.size ≤ (World.drew W7).heap.size := HC8.out.size
            clear hdr HP7 HT7 HC7 p6
            refine wp_region_lex (fun w' => w'.cell? ⟨gc, 2, none⟩ = some (.slice CA costs.length Cc)) [true, true, true, false, false, false, false, false] (by kernel_rfl) (by kernel_rfl) (fun c a d v w h => by cases d <;> exact h) ?_
            change wpLex _ _ _ _ _ _ _ _ _ (World.drew W7)
            generalize World.drew W7 = W8 at *
            repeat (first | (refine lex_take c1 rfl (fun w' hw' => by (obtain u1 := hw'; (try go_simp); try rfl)) (fun K hK => ?_); go_simp; refine hK _ _ ?_; clear hK K) | (refine lex_take_on _ _ _ _ c1 rfl rfl rfl rfl (fun w' hw' => by (obtain u1 := hw'; (try go_simp); try rfl)) (fun K hK => ?_); go_simp; refine hK _ _ ?_; clear hK K) | (refine lex_take_off _ _ _ _ _ c1 rfl rfl rfl rfl rfl (fun K hK => ?_); go_simp; refine hK _ _ ?_; clear hK K))
            refine lex_step rfl (fun K hK => ?_)
            go_wp2_with (go_at_call 108; refine (number_r g _ toks q2 _ hv sv 1000000000000 (by decide) (by decide) HP8.out).mono ?_; rw [HTN.out]; rintro e W9 ⟨rfl, hp, hc⟩; (have HP9 := Lib.hid hp); (have HT9 := Lib.hid (HT8.out.chg hc (by omega))); (have HC9 : Hid (Chg (fun k => k = g ∨ k = gc) Wb W9) := Lib.hid (HC8.out.trans hc (fun _ _ h => Or.inl h))); (have hsz9 := hc.size); (have d1 : W9.cell? ⟨gc, 2, none⟩ = some (.slice CA costs.length Cc) := cell_at HT9.out.con (i := 2) rfl); clear hp hc)
            refine hK _ _ d1 ?_
            clear hK K c1
            refine lex_step rfl (fun K hK => ?_)
            go_wp2_with fail
            have hal := below_alloc1 W9 (.cells #[.int .i64 tn] 2)
            refine hK _ _ (cell_kept hal d1) ?_
            clear hK K d1
            have HT10 := Lib.hid (HT9.out.below hal)
            have HP10 := Lib.hid (HP9.out.below hal)
            have HC10 := Lib.hid (HC9.out.alloc (.cells #[.int .i64 tn] 2))
            obtain ⟨css, hcs1, hcs2⟩ := HT10.out.cst.open_
            have HCS1 := Lib.hid hcs1
            have HCS2 := Lib.hid hcs2
            clear hcs1 hcs2 hal
            refine lex_step rfl (fun K hK => ?_)
            refine wp_append_lies _ _ _ 45 rfl (gc + 1) 2 i6 _ 1 8 Tryz.underlying45 hi6 h60 h61 h62 rfl (by decide) (.slice CA costs.length Cc) costs.length css.flatten rfl HCS2.out ⟨_, 0, none⟩ 1 1 [.int .i64 tn] rfl rfl (World.news_of_block (cs := #[.int .i64 tn]) (t := 2) (fr := (0, 0)) (heap_alloc_new W9 _)) (by simp [Value.oneCell']) (by decide) (by simp only [maxLen]; omega) (by omega) (by simp; omega) (W9.heap.size + 1) (by simp) ?_
            intro kc cap2 V5 hown hgrow hat hltk2
            have HON : Hid (OwnC (gc + 1) (.slice (some ⟨kc, 0, none⟩) (costs.length + 1) cap2) (costs ++ [tn]) V5) := Lib.hid (OwnD.snoc (d := Kd.int .i64) (x := tn) (cs := [.int .i64 tn]) HCS1.out.1 HCS1.out.2.1 HCS1.out.2.2 rfl hgrow hown (hat_of hat (by simp)) (fun k h => h.elim))
            have HT11 := Lib.hid (HT10.out.more hgrow HON.out (hat.imp (fun h => h.symm) fun h => ⟨kc, rfl, by rw [h]; simp⟩))
            have HP11 := Lib.hid ((HP10.out.chg (chg_of_grown hgrow) (fun k hk e => by have := (HCS2.out.lt k e).1; omega)).chg (chg_setCell V5 gc 2 (.slice (some ⟨kc, 0, none⟩) (costs.length + 1) cap2)) (fun k hk e => by omega))
            have HC11 : Hid (Chg (fun k => k = g ∨ k = gc) Wb (V5.setCell ⟨gc, 2, none⟩ (.slice (some ⟨kc, 0, none⟩) (costs.length + 1) cap2))) := Lib.hid ((HC10.out.trans (chg_of_grown hgrow) (fun k hk e => by have := (HCS2.out.lt k e).1; omega)).trans (chg_setCell V5 gc 2 _) (fun _ _ h => Or.inr h))
            have hc6 : SftAt gc V5 (.slice SA sc.length Sc) (.slice (some ⟨kb, 0, none⟩) (rows.length + 1) cap) (.slice CA costs.length Cc) dd := (chg_of_grown hgrow).heap HT10.out.con (fun e => by have := (HCS2.out.lt gc e).1; omega)
            have e2 : V5.cell? ⟨gc, 2, none⟩ = some (.slice CA costs.length Cc) := cell_at hc6 (i := 2) rfl
            have ef := Lib.frozen_of_heap hc6 2
            refine hK _ _ e2 ?_
            clear hK K hown hat hgrow hc6
            refine lex_list _ _ _ _ _ rfl (by kernel_rfl) ?_
            go_wp2_with fail
            go_roundg (toks.length - (costF toks q2).i)
            case rel => exact ⟨rows ++ [t], costs ++ [tn], _, _, _, _, HT11, Lib.hid (by rw [HF.out]; exact HP11.out), HC11, Lib.hid HZ.out.1, rfl⟩
            case measure => have := HG.out; have := HZ.out.2; have := cost_i (toks := toks) hq2; omega
          · have hd2 : (q2.e == 0) = false := by simp [he2]
            have HF : Hid (costF toks q2 = q2) := Lib.hid (by unfold costF; rw [if_neg he2])
            have HA : Hid (costL toks costs q2 = costs) := Lib.hid (by unfold costL; rw [if_neg he2])
            rw [HA.out] at HZ
            clear he2 HA
            go_wp2_with fail
            go_roundg (toks.length - (costF toks q2).i)
            case rel => exact ⟨rows ++ [t], costs, _, _, _, _, HT7, Lib.hid (by rw [HF.out]; exact HP7.out), HC7, Lib.hid HZ.out.1, rfl⟩
            case measure => have := HG.out; have := HZ.out.2; have := cost_i (toks := toks) hq2; omega
      · have hd1 : (q.e == 0) = false := by simp [he]
        have HZ := Lib.hid (sft_out HT.out HI.out hqi he)
        clear he
        go_wp2_with fail
        go_meet
        case rel => exact ⟨rows, costs, _, _, _, q, HTS.out, HP.out, HC.out, HZ.out⟩
  case rest =>
    clear HT3 HP3 HG3
    obtain ⟨rows, costs, rv, cv, okR, q, hts, hp, hc, htp⟩ := hcut
    have HTS := Lib.hid hts
    have HP5 := Lib.hid hp
    have HG5 : Hid (Chg (fun k => k = g ∨ k = gc) w wc) := Lib.hid ((HG1.out.mono (T := fun k => k = g ∨ k = gc) (fun _ _ h => Or.inl h)).trans hc (fun _ _ h => h))
    have HS5 := Lib.hid (HS.out.chg (by decide) hc (fun k hk e => by omega))
    have hrl := htp.2.1
    have hcl := htp.2.2.1
    obtain ⟨RA, Rc, rfl, _, _, _⟩ := hts.own.sl (by omega)
    obtain ⟨CA, Cc, rfl, _, _, _⟩ := hts.cst.sl (by omega)
    have hqi := hp.idx
    have HEND : Hid (Kept s (signF toks [59] q) ∧ (s.e = 0 → Ag toks (signF toks [59] q) (thenSign (softQ x.doms (toks.drop s.i))) (fun c' => c' = ⟨sc, rows, costs, dd⟩))) := Lib.hid ⟨((HPP.out.1.trans HK3.out).trans htp.1).trans (sign_kept _), fun h0 => by
      rw [HDD.out]
      exact soft_law HT.out hsA HPP.out (by rw [← HS3.out]; exact htp) hqi h0⟩
    clear hts hp hc htp HG1 HS HD
    go_upto_region 12 with (go_at_call 86; refine (sign_r g _ toks q _ hv sv [59] HP5.out).mono ?_; rintro e V0 ⟨rfl, hp, hc⟩; (have HP9 := Lib.hid hp); (have HC6 := Lib.hid hc); clear hp hc)
    have HTS9 := Lib.hid (HTS.out.chg HC6.out (by omega))
    have HG9 : Hid (Chg (fun k => k = g ∨ k = gc) w V0) := Lib.hid (HG5.out.trans HC6.out (fun _ _ h => Or.inl h))
    have hsz9 := HC6.out.size
    have hsz5 := HG5.out.size
    have HS9a := Lib.hid (((HS5.out.chg (by decide) HC6.out (fun k hk e => by omega)).below (by decide) (Below.drew (Below.refl V0.heap.size V0))).mono (ok' := fun k => w.heap.size ≤ k ∧ k < (World.drew V0).heap.size) (fun k hk => ⟨hk.1, Nat.lt_trans hk.2 (show gc < V0.heap.size from lt_of_block HTS9.out.con)⟩))
    have HR9a := Lib.hid (((HTS9.out.own.sl (by omega)).below (by decide) (Below.drew (Below.refl V0.heap.size V0))).mono (ok' := fun k => w.heap.size ≤ k ∧ k < (World.drew V0).heap.size) (fun k hk => by
      rcases hk with hk | hk
      · have := HTS9.out.okr k hk; exact ⟨by omega, this.2⟩
      · have := HTS9.out.own.own k hk; exact ⟨by omega, this.2.1⟩))
    have HV9a := Lib.hid (((HTS9.out.cst.sl (by omega)).below (by decide) (Below.drew (Below.refl V0.heap.size V0))).mono (ok' := fun k => w.heap.size ≤ k ∧ k < (World.drew V0).heap.size) (fun k hk => by
      rcases hk with hk | hk
      · exact hk.elim
      · have := HTS9.out.cst.own k hk; exact ⟨by omega, this.2.1⟩))
    have HC9 := Lib.hid HTS9.out.con
    clear HTS HP5 HG5 HS5 HTS9 HC6
    have hszv := HG9.out.size
    have hs9' : PSt g (World.drew V0).heap.size (World.drew V0) x (.slice DA x.doms.length Dc) hv sv (fun k => ok k ∨ (w.heap.size ≤ k ∧ k < (World.drew V0).heap.size)) := (HST.out.chg HG9.out.drew (fun k hk => by omega)).fill hszv hgw
    have HKX := Lib.hid (show kSft.K (World.drew V0) (fun k => ok k ∨ (w.heap.size ≤ k ∧ k < (World.drew V0).heap.size)) ⟨sc, rows, costs, dd⟩ [(.slice SA sc.length Sc), (.slice RA rows.length Rc), (.slice CA costs.length Cc), .int .i64 dd] from sft_K (HS9a.out.mono fun _ h => Or.inr h) (HR9a.out.mono fun _ h => Or.inr h) (HV9a.out.mono fun _ h => Or.inr h))
    obtain ⟨HA9, Hc9, hHv, _, _, _⟩ := hs9'.S.sl (by omega)
    subst hHv
    have HS9 := Lib.hid hs9'
    have hdr9 := Below.drew (Below.refl V0.heap.size V0)
    have HP10 := Lib.hid (HP9.out.below hdr9)
    have HG10 := Lib.hid HG9.out.drew
    have hc10 : SftAt gc (World.drew V0) (.slice SA sc.length Sc) (.slice RA rows.length Rc) (.slice CA costs.length Cc) dd := HC9.out
    have x1 := HP10.out.cellS
    have x2 : (World.drew V0).cell? ⟨gc, 0, none⟩ = some ((.slice SA sc.length Sc)) := cell_at hc10 (i := 0) rfl
    have x3 : (World.drew V0).cell? ⟨gc, 1, none⟩ = some ((.slice RA rows.length Rc)) := cell_at hc10 (i := 1) rfl
    have x4 : (World.drew V0).cell? ⟨gc, 2, none⟩ = some ((.slice CA costs.length Cc)) := cell_at hc10 (i := 2) rfl
    have x5 : (World.drew V0).cell? ⟨gc, 3, none⟩ = some (.int .i64 dd) := cell_at hc10 (i := 3) rfl
    have HC10 := Lib.hid hc10
    clear hc10 hs9' HP9 HG9 HC9 HST hdr9
    obtain ⟨iC, hiC, hC0, hC1, hC2⟩ := info_parts (show (Tryz.prog.info? 47).map (fun i => (i.zero, i.size, i.bytes)) = some (some (.agg #[.slice none 0 0, .slice none 0 0, .slice none 0 0, .int .i64 0]), 4, 80) by kernel_rfl)
    refine wp_region_lex (fun w' => w'.cell? ⟨g, 4, none⟩ = some (.slice HA9 x.soft.length Hc9) ∧ w'.cell? ⟨gc, 0, none⟩ = some ((.slice SA sc.length Sc)) ∧ w'.cell? ⟨gc, 1, none⟩ = some ((.slice RA rows.length Rc)) ∧ w'.cell? ⟨gc, 2, none⟩ = some ((.slice CA costs.length Cc)) ∧ w'.cell? ⟨gc, 3, none⟩ = some (.int .i64 dd)) [true, true, true, true, true, true, true, false, false, false, false, false, false] (by kernel_rfl) (by kernel_rfl) (fun c a d v w h => by cases d <;> exact h) ?_
    change wpLex _ _ _ _ _ _ _ _ _ (World.drew V0)
    have hV : V0.heap.size ≤ (World.drew V0).heap.size := Nat.le_refl _
    generalize World.drew V0 = V at *
    repeat (first | (refine lex_take ⟨x1, x2, x3, x4, x5⟩ rfl (fun w' hw' => by (obtain ⟨y1, y2, y3, y4, y5⟩ := hw'; (try go_simp); try rfl)) (fun K hK => ?_); go_simp; refine hK _ _ ?_; clear hK K) | (refine lex_take_on _ _ _ _ ⟨x1, x2, x3, x4, x5⟩ rfl rfl rfl rfl (fun w' hw' => by (obtain ⟨y1, y2, y3, y4, y5⟩ := hw'; (try go_simp); try rfl)) (fun K hK => ?_); go_simp; refine hK _ _ ?_; clear hK K) | (refine lex_take_off _ _ _ _ _ ⟨x1, x2, x3, x4, x5⟩ rfl rfl rfl rfl rfl (fun K hK => ?_); go_simp; refine hK _ _ ?_; clear hK K))
    refine lex_step rfl (fun K hK => ?_)
    go_wp2_with fail
    have hal9 := below_alloc1 V (.cells #[(.slice SA sc.length Sc), (.slice RA rows.length Rc), (.slice CA costs.length Cc), .int .i64 dd] 47)
    refine hK _ _ ⟨cell_kept hal9 x1, cell_kept hal9 x2, cell_kept hal9 x3, cell_kept hal9 x4, cell_kept hal9 x5⟩ ?_
    clear hK K hal9
    have HS11 := Lib.hid (HS9.out.chg (Chg.alloc0 V (.cells #[(.slice SA sc.length Sc), (.slice RA rows.length Rc), (.slice CA costs.length Cc), .int .i64 dd] 47) (fun _ => False)) (fun _ h => h.elim))
    have HK11 := Lib.hid (kSft.chg HKX.out (Chg.alloc0 V (.cells #[(.slice SA sc.length Sc), (.slice RA rows.length Rc), (.slice CA costs.length Cc), .int .i64 dd] 47) (fun _ => False)) (fun _ _ h => h))
    obtain ⟨css, hcs1, hcs2⟩ := HS11.out.S.open_
    have HCS1 := Lib.hid hcs1
    have HCS2 := Lib.hid hcs2
    have HHO := Lib.hid (fun k hk => HS9.out.S.own k hk)
    clear hcs1 hcs2
    refine lex_step rfl (fun K hK => ?_)
    refine wp_append_lies _ _ _ 24 rfl (g + 1) 47 iC _ 4 80 Tryz.underlying24 hiC hC0 hC1 hC2 rfl (by decide) (.slice HA9 x.soft.length Hc9) x.soft.length css.flatten rfl HCS2.out ⟨_, 0, none⟩ 1 1 [(.slice SA sc.length Sc), (.slice RA rows.length Rc), (.slice CA costs.length Cc), .int .i64 dd] rfl rfl (World.news_of_block (cs := #[(.slice SA sc.length Sc), (.slice RA rows.length Rc), (.slice CA costs.length Cc), .int .i64 dd]) (t := 47) (fr := (0, 0)) (heap_alloc_new V _)) (by simp [Value.oneCell']) (by decide) (by simp only [maxLen]; omega) (by omega) (by simp; omega) (V.heap.size + 1) (by simp) ?_
    intro kb cap V3 hown hgrow hat hlt
    have hF3 : Chg (fun k => (Value.slice HA9 x.soft.length Hc9).ownBlock = some k) V V3 := (Chg.alloc0 V _ _).trans (chg_of_grown hgrow) (fun _ _ h => h)
    have HS12 := Lib.hid (HS11.out.addS (by simp) HCS1.out HK11.out hgrow hown (hat_of hat (by simp)))
    have HP12 := Lib.hid (HP10.out.chg hF3 (fun k hk e => by have := (HHO.out k e).1; omega))
    have hc12 : SftAt gc V3 (.slice SA sc.length Sc) (.slice RA rows.length Rc) (.slice CA costs.length Cc) dd := hF3.heap HC10.out (fun e => (HHO.out _ e).2.2 (Or.inr ⟨by omega, by have := lt_of_block HC10.out; omega⟩))
    have y1 := HP12.out.cellS
    have yf := HP12.out.froz 4
    have y2 : V3.cell? ⟨gc, 0, none⟩ = some ((.slice SA sc.length Sc)) := cell_at hc12 (i := 0) rfl
    have y3 : V3.cell? ⟨gc, 1, none⟩ = some ((.slice RA rows.length Rc)) := cell_at hc12 (i := 1) rfl
    have y4 : V3.cell? ⟨gc, 2, none⟩ = some ((.slice CA costs.length Cc)) := cell_at hc12 (i := 2) rfl
    have y5 : V3.cell? ⟨gc, 3, none⟩ = some (.int .i64 dd) := cell_at hc12 (i := 3) rfl
    have HG12 := Lib.hid ((HG10.out.mono (fun j _ h => (by omega : g ≤ j))).trans hF3 (fun j hj e => by have := (HHO.out j e).1; omega))
    clear hown hgrow hat hF3 hc12
    refine hK _ _ ⟨y1, y2, y3, y4, y5⟩ ?_
    clear hK K
    refine lex_list _ _ _ _ _ rfl (by kernel_rfl) ?_
    go_wp2
    go_end0
    refine ⟨⟨sc, rows, costs, dd⟩, _, rfl, ⟨_, hv, _, _, HP12.out.setS _, (HS12.out.chg (chg_setCell V3 g 4 _) (fun k hk => by omega)).later (by rw [Go.Deep.nblk_setCell]; exact Nat.le_refl _)⟩, ?_, HEND.out.1, HEND.out.2⟩
    exact (HG12.out.trans (chg_setCell V3 g 4 _) (fun j _ e => by omega)).below (fun k hk e => by omega) (by omega)
end Go.Proofs.YtoahaigfjfeopaaGreatDoor

/- What the reference's parser computes: statements, texts. No program, no memory. -/
namespace Go.Proofs.YtoahaigfjfeopaaGreatDoor

/-- Which word of a hard constraint a token is, as far as one has looked (0: none). -/
def kAt (t : Tok) : Nat → Nat
  | 0 => 0
  | i + 1 => if i ≠ 0 ∧ t.kind = 1 ∧ t.text = nth [] wordsT i then i else kAt t i
theorem kAt_le (t : Tok) : ∀ i, kAt t (i + 1) ≤ i
  | 0 => by rw [kAt]; split; omega; exact Nat.le_refl _
  | i + 1 => by rw [kAt]; split; omega; have := kAt_le t i; omega
theorem kAt_not {t : Tok} (h : t.kind ≠ 1) : ∀ i, kAt t i = 0
  | 0 => rfl
  | i + 1 => by rw [kAt, if_neg (fun hh => h hh.2.1)]; exact kAt_not h i
theorem kAt_law {t : Tok} (hk : t.kind = 1) : (kAt t 7 : Int) = if 0 < wordFrom t.text 0 wordsT then wordFrom t.text 0 wordsT else 0 := by
  have e : ∀ i, kAt t (i + 1) = if i ≠ 0 ∧ t.text = nth [] wordsT i then i else kAt t i := fun i => by rw [kAt]; simp [hk]
  have h7 : kAt t 7 = if 6 ≠ 0 ∧ t.text = nth [] wordsT 6 then 6 else if 5 ≠ 0 ∧ t.text = nth [] wordsT 5 then 5 else if 4 ≠ 0 ∧ t.text = nth [] wordsT 4 then 4 else if 3 ≠ 0 ∧ t.text = nth [] wordsT 3 then 3 else if 2 ≠ 0 ∧ t.text = nth [] wordsT 2 then 2 else if 1 ≠ 0 ∧ t.text = nth [] wordsT 1 then 1 else if 0 ≠ 0 ∧ t.text = nth [] wordsT 0 then 0 else 0 := by
    rw [e 6, e 5, e 4, e 3, e 2, e 1, e 0]; rfl
  rw [h7]
  clear h7 e hk
  generalize t.text = u
  by_cases h0 : u = []
  · subst h0; decide
  by_cases h1 : u = [116, 97, 98, 108, 101]
  · subst h1; decide
  by_cases h2 : u = [102, 111, 114, 98, 105, 100]
  · subst h2; decide
  by_cases h3 : u = [100, 105, 102, 102]
  · subst h3; decide
  by_cases h4 : u = [101, 113, 117, 97, 108]
  · subst h4; decide
  by_cases h5 : u = [114, 105, 115, 105, 110, 103]
  · subst h5; decide
  by_cases h6 : u = [108, 105, 110, 101, 97, 114]
  · subst h6; decide
  have m : ∀ a : List UInt8, ¬ u = a → ¬ a = u := fun a h e => h e.symm
  simp only [wordsT, wordFrom, nth, List.getD_cons_zero, List.getD_cons_succ, h1, h2, h3, h4, h5, h6, m _ h0, m _ h1, m _ h2, m _ h3, m _ h4, m _ h5, m _ h6, and_false, if_false]
  rw [if_neg (fun h => h.1 rfl)]
  decide
section
variable {toks : List Tok} {s s' : RS} {x : Ins}
/-- No statement begins so. -/
theorem stm_bad (hi : s.i < toks.length) (he : s.e = 0) (h : ¬ ((tkF toks s).kind = 1 ∧ (0 < wordFrom (tkF toks s).text 0 wordsT ∨ (tkF toks s).text = varT ∨ (tkF toks s).text = softT))) {P : Ins → Prop} :
    Ag toks (nextF toks (failF toks s.i 3 s)) (stmtQ x (toks.drop s.i)) P := by
  rw [drop_tk hi, stmtQ_bad h]
  refine ⟨?_, ?_, by decide⟩
  · rw [next_a, fail_ok _ _ he]; rfl
  · rw [next_e, fail_ok _ _ he]
theorem stm_many (hi : s.i < toks.length) (he : s.e = 0) (h : stmtQ x (tkF toks s :: toks.drop (s.i + 1)) = .error ((tkF toks s).at_, 7)) {P : Ins → Prop} :
    Ag toks (nextF toks (failF toks s.i 7 s)) (stmtQ x (toks.drop s.i)) P := by
  rw [drop_tk hi, h]
  refine ⟨?_, ?_, by decide⟩
  · rw [next_a, fail_ok _ _ he]; rfl
  · rw [next_e, fail_ok _ _ he]
theorem stm_var (hi : s.i < toks.length) (hk : (tkF toks s).kind = 1) (ht : (tkF toks s).text = varT) (h40 : ¬ 40 ≤ x.doms.length) {sC : RS} (hC : sC.i = s.i + 1) (hCe : sC.e = 0) {d : List Int} (h : DomP toks sC d s') :
    Ag toks s' (stmtQ x (toks.drop s.i)) (fun y => y = { x with doms := x.doms ++ [d] }) := by
  have ha := h.2.2 hCe
  rw [hC] at ha
  rw [drop_tk hi]
  cases hd : domQ (toks.drop (s.i + 1)) [] with
  | error e =>
    rw [((stmtQ_var (r' := []) (r2 := []) (u := ()) hk ht).2 h40).1 hd]
    rw [hd] at ha; exact ha
  | ok p =>
    obtain ⟨d', r'⟩ := p
    rw [hd] at ha
    simp only at ha
    cases hs : signQ [59] r' with
    | error e =>
      rw [(((stmtQ_var (e := e) (r2 := []) (u := ()) hk ht).2 h40).2 d' hd).1 hs]
      rw [hs] at ha; exact ha
    | ok p =>
      obtain ⟨u, r2⟩ := p
      rw [(((stmtQ_var (e := (0, 0)) hk ht).2 h40).2 d' hd).2 hs]
      rw [hs] at ha
      exact ⟨ha.1, ha.2.1, by rw [ha.2.2]⟩
theorem stm_soft (hi : s.i < toks.length) (hk : (tkF toks s).kind = 1) (ht : (tkF toks s).text = softT) (h40 : ¬ 200 ≤ x.soft.length) {sC : RS} (hC : sC.i = s.i + 1) {d : Sft} (ha : Ag toks s' (thenSign (softQ x.doms (toks.drop sC.i))) (fun r => r = d)) :
    Ag toks s' (stmtQ x (toks.drop s.i)) (fun y => y = { x with soft := x.soft ++ [d] }) := by
  rw [hC] at ha
  rw [drop_tk hi]
  unfold thenSign at ha
  cases hd : softQ x.doms (toks.drop (s.i + 1)) with
  | error e =>
    rw [((stmtQ_soft (r' := []) (r2 := []) (u := ()) hk ht).2 h40).1 hd]
    rw [hd] at ha; exact ha
  | ok p =>
    obtain ⟨d', r'⟩ := p
    rw [hd] at ha
    simp only at ha
    cases hs : signQ [59] r' with
    | error e =>
      rw [(((stmtQ_soft (e := e) (r2 := []) (u := ()) hk ht).2 h40).2 d' hd).1 hs]
      rw [hs] at ha; exact ha
    | ok p =>
      obtain ⟨u, r2⟩ := p
      rw [(((stmtQ_soft (e := (0, 0)) hk ht).2 h40).2 d' hd).2 hs]
      rw [hs] at ha
      exact ⟨ha.1, ha.2.1, by rw [ha.2.2]⟩
theorem stm_hard (hi : s.i < toks.length) {kw : Int} (hkw : kw = wordFrom (tkF toks s).text 0 wordsT) (hk : (tkF toks s).kind = 1) (hw : 0 < kw) (hnv : ¬ (tkF toks s).text = varT) (hns : ¬ (tkF toks s).text = softT) (h40 : ¬ 200 ≤ x.hard.length) {sC : RS} (hC : sC.i = s.i + 1) {d : Con} (ha : Ag toks s' (thenSign (hardQ x.doms kw (toks.drop sC.i))) (fun r => r = d)) :
    Ag toks s' (stmtQ x (toks.drop s.i)) (fun y => y = { x with hard := x.hard ++ [d] }) := by
  rw [hC] at ha
  rw [drop_tk hi]
  unfold thenSign at ha
  cases hd : hardQ x.doms kw (toks.drop (s.i + 1)) with
  | error e =>
    rw [((stmtQ_hard (r' := []) (r2 := []) (u := ()) hkw hk hw hnv hns).2 h40).1 hd]
    rw [hd] at ha; exact ha
  | ok p =>
    obtain ⟨d', r'⟩ := p
    rw [hd] at ha
    simp only at ha
    cases hs : signQ [59] r' with
    | error e =>
      rw [(((stmtQ_hard (e := e) (r2 := []) (u := ()) hkw hk hw hnv hns).2 h40).2 d' hd).1 hs]
      rw [hs] at ha; exact ha
    | ok p =>
      obtain ⟨u, r2⟩ := p
      rw [(((stmtQ_hard (e := (0, 0)) hkw hk hw hnv hns).2 h40).2 d' hd).2 hs]
      rw [hs] at ha
      exact ⟨ha.1, ha.2.1, by rw [ha.2.2]⟩
/-! ### Texts -/
/-- Ahead of a statement. -/
structure ParI (toks : List Tok) (x : Ins) (s : RS) : Prop where
  dims : x.doms.length ≤ 40 ∧ x.hard.length ≤ 200 ∧ x.soft.length ≤ 200
  good : s.e = 0 → ∃ n, toks.length - s.i < n ∧ stmtsQ (toks.length + 1) ⟨[], [], []⟩ toks = stmtsQ n x (toks.drop s.i)
  bad : s.e ≠ 0 → stmtsQ (toks.length + 1) ⟨[], [], []⟩ toks = .error (s.a, s.e)
theorem par_first : ParI toks ⟨[], [], []⟩ ⟨0, 0, 0⟩ := ⟨⟨by simp, by simp, by simp⟩, fun _ => ⟨_, by omega, rfl⟩, fun h => absurd rfl h⟩
def parM (toks : List Tok) (s : RS) : Nat := if s.e = 0 then toks.length - s.i + 1 else 0
theorem par_step (hi : s.i < toks.length) (h : ParI toks x s) (he : s.e = 0) (h4 : (tkF toks s).kind ≠ 4) {x' : Ins} (hd : x'.doms.length ≤ 40 ∧ x'.hard.length ≤ 200 ∧ x'.soft.length ≤ 200) (ha : Ag toks s' (stmtQ x (toks.drop s.i)) (fun y => y = x')) :
    ParI toks x' s' ∧ parM toks s' < parM toks s := by
  obtain ⟨n, hn, hq⟩ := h.good he
  obtain ⟨n, rfl⟩ : ∃ m, n = m + 1 := ⟨n - 1, by omega⟩
  have htk : nth default (toks.drop s.i) 0 = tkF toks s := by rw [drop_tk hi]; rfl
  have hq2 : stmtsQ (n + 1) x (toks.drop s.i) = match stmtQ x (toks.drop s.i) with
      | .error e => .error e
      | .ok (y, r) => stmtsQ n y r := by rw [stmtsQ, htk, if_neg h4]; rfl
  rw [hq2] at hq
  have hM : parM toks s = toks.length - s.i + 1 := by unfold parM; rw [if_pos he]
  by_cases he2 : s'.e = 0
  · obtain ⟨v, hv, rfl⟩ := ag_good ha he2
    have hl := stmtQ_len hv
    rw [List.length_drop, List.length_drop] at hl
    have hM2 : parM toks s' = toks.length - s'.i + 1 := by unfold parM; rw [if_pos he2]
    refine ⟨⟨hd, fun _ => ⟨n, by omega, by rw [hq, hv]⟩, fun h => absurd he2 h⟩, by omega⟩
  · have hM2 : parM toks s' = 0 := by unfold parM; rw [if_neg he2]
    exact ⟨⟨hd, fun h => absurd h he2, fun _ => by rw [hq, ag_bad ha he2]⟩, by omega⟩
theorem par_end (hi : s.i < toks.length) (h : ParI toks x s) (he : s.e = 0) (h4 : (tkF toks s).kind = 4) : stmtsQ (toks.length + 1) ⟨[], [], []⟩ toks = .ok x := by
  obtain ⟨n, hn, hq⟩ := h.good he
  obtain ⟨n, rfl⟩ : ∃ m, n = m + 1 := ⟨n - 1, by omega⟩
  have htk : nth default (toks.drop s.i) 0 = tkF toks s := by rw [drop_tk hi]; rfl
  rw [hq, stmtsQ, htk, if_pos h4]
end
end Go.Proofs.YtoahaigfjfeopaaGreatDoor

/- What the tokens of a text are. No program, no memory. -/
namespace Go.Proofs.YtoahaigfjfeopaaGreatDoor

theorem numP_fit {l : List UInt8} {v : Int} {k : Nat} (h : numP l = .ok (v, k)) : Fit v := by
  unfold numP at h
  dsimp only at h
  generalize (if l.head? = some 45 then 1 else 0) = m at h
  generalize (l.drop m).take (runP isDigit (l.drop m)) = ds at h
  by_cases hc : ds = [] ∨ ds.head? = some 48 ∧ 1 < ds.length + m
  · rw [if_pos hc] at h; cases h
  · rw [if_neg hc] at h
    cases hp : Lib.parseIntB 64 (l.take (m + ds.length)) with
    | ok u =>
      rw [hp] at h
      simp only at h
      by_cases hv : 1000000000000 < u ∨ u < -1000000000000
      · rw [if_pos hv] at h; cases h
      · rw [if_neg hv] at h
        injection h with h; injection h with h _
        subst h
        exact ⟨by omega, by omega⟩
    | _ => rw [hp] at h; cases h
theorem fit0 : Fit 0 := ⟨by decide, by decide⟩
theorem tokenP_fit {l : List UInt8} {t : Tok} {k : Nat} (h : tokenP l = .ok (t, k)) : Fit t.n := by
  cases l with
  | nil => cases h
  | cons c r =>
    simp only [tokenP] at h
    split at h
    · injection h with h; injection h with h _; subst h; exact fit0
    · split at h
      · injection h with h; injection h with h _; subst h; exact fit0
      · split at h
        · split at h
          · rename_i hn
            injection h with h; injection h with h _; subst h
            exact numP_fit hn
          · cases h
        · cases h
theorem scan_fit : ∀ (f a : Nat) (l : List UInt8) (ts : List Tok), scanP f a l = .ok ts → ∀ t ∈ ts, Fit t.n
  | 0, a, l, ts, h => by injection h with h; subst h; intro t ht; cases ht
  | f + 1, a, l, ts, h => by
    rw [scanP] at h
    split at h
    · injection h with h
      subst h
      intro t ht
      rw [List.mem_singleton] at ht
      subst ht; exact fit0
    · split at h
      · exact scan_fit f _ _ ts h
      · cases ht : tokenP l with
        | error e => rw [ht] at h; cases h
        | ok p =>
          obtain ⟨t, k⟩ := p
          rw [ht] at h
          cases hr : scanP f (a + k) (l.drop k) with
          | error e => simp only [hr] at h; cases h
          | ok us =>
            simp only [hr] at h
            injection h with h
            subst h
            intro s hs
            rcases List.mem_cons.1 hs with rfl | hs
            · exact show Fit t.n from tokenP_fit ht
            · exact scan_fit f _ _ us hr s hs
theorem tok_shape {t : Tok} (h : TokOk t) : (t.kind = 1 ∧ ∀ c ∈ t.text, isLetter c = true) ∨ (t.kind = 2) ∨ (t.kind = 3 ∧ t.text.length = 1) ∨ (t.kind = 4 ∧ t.text = []) := by
  have hk : (er t).kind = t.kind := rfl
  have ht : (er t).text = t.text := rfl
  rcases h with h | ⟨h, _, h2⟩ | ⟨c, h, _⟩ | h
  · exact .inr (.inl (by rw [← hk, h]; rfl))
  · exact .inl ⟨by rw [← hk, h]; rfl, h2⟩
  · exact .inr (.inr (.inl ⟨by rw [← hk, h]; rfl, by rw [← ht, h]; rfl⟩))
  · exact .inr (.inr (.inr ⟨by rw [← hk, h]; rfl, by rw [← ht, h]; rfl⟩))
theorem tokR_of {l : List UInt8} {ts : List Tok} (h : allP l = .ok ts) : TokR ts := by
  rw [allP] at h
  split at h
  · cases h
  · obtain ⟨c, E, rfl, h4, _, hok, hc, hl⟩ := scan_ok _ _ _ _ (Nat.lt_succ_self _) h
    have hf := scan_fit _ _ _ _ h
    refine ⟨fun t ht => ?_, fun t ht h4 => ?_, fun j hj => ?_, fun j hj => ?_, hf, fun t ht h1 => ?_, fun t ht h3 => ?_, by simp; omega⟩
    · rcases tok_shape (hok t ht) with h | h | h | h
      · exact .inl h.1
      · exact .inr (.inl h)
      · exact .inr (.inr (.inl h.1))
      · exact .inr (.inr (.inr h.1))
    · rcases tok_shape (hok t ht) with h | h | h | h
      · have := h.1; omega
      · omega
      · have := h.1; omega
      · exact h.2
    · rw [List.length_append, List.length_singleton] at hj
      have e : nth default (c ++ [E]) j = nth default c j := by simp only [nth, List.getD_eq_getElem?_getD]; rw [List.getElem?_append_left (by omega)]
      rw [e]
      exact (hc _ (nth_mem default (by omega))).1
    · rw [List.length_append, List.length_singleton] at hj
      have e : nth default (c ++ [E]) j = E := by simp only [nth, List.getD_eq_getElem?_getD]; rw [List.getElem?_append_right (by omega), show j - c.length = 0 by omega]; rfl
      rw [e]; exact h4
    · rcases tok_shape (hok t ht) with h | h | h | h
      · exact h.2
      · omega
      · have := h.1; omega
      · have := h.1; omega
    · rcases tok_shape (hok t ht) with h | h | h | h
      · have := h.1; omega
      · omega
      · exact h.2
      · have := h.1; omega
end Go.Proofs.YtoahaigfjfeopaaGreatDoor

/- arboristref06.parser: statement. -/
namespace Go.Proofs.YtoahaigfjfeopaaGreatDoor
open Go.RowKit
attribute [local irreducible] wpStill wpLex wpLexO wpPlan Calls

def StR (g : Nat) (w w' : World) (toks : List Tok) (s : RS) (x : Ins) (e : Ending) : Prop :=
  ∃ (s' : RS) (x' : Ins), e = .returned (.tuple #[]) ∧ RAll g w' toks s' x' ∧ Below g w w' ∧ (x'.doms.length ≤ 40 ∧ x'.hard.length ≤ 200 ∧ x'.soft.length ≤ 200) ∧ Ag toks s' (stmtQ x (toks.drop s.i)) (fun y => y = x')
abbrev wordsO : Obj := .cells #[.string ⟨#[]⟩, .string ⟨#[116, 97, 98, 108, 101]⟩, .string ⟨#[102, 111, 114, 98, 105, 100]⟩, .string ⟨#[100, 105, 102, 102]⟩, .string ⟨#[101, 113, 117, 97, 108]⟩, .string ⟨#[114, 105, 115, 105, 110, 103]⟩, .string ⟨#[108, 105, 110, 101, 97, 114]⟩] 9
theorem words_at {w : World} {b : Nat} {t : TypeId} {fr : Nat × Nat} (h : w.heap[b]? = some (.cells #[.string ⟨#[]⟩, .string ⟨#[116, 97, 98, 108, 101]⟩, .string ⟨#[102, 111, 114, 98, 105, 100]⟩, .string ⟨#[100, 105, 102, 102]⟩, .string ⟨#[101, 113, 117, 97, 108]⟩, .string ⟨#[114, 105, 115, 105, 110, 103]⟩, .string ⟨#[108, 105, 110, 101, 97, 114]⟩] t fr)) {i : Nat} (hi : i < 7) :
    w.cell? ⟨b, i, none⟩ = some (.string ⟨(nth [] wordsT i).toArray⟩) := by
  have : i = 0 ∨ i = 1 ∨ i = 2 ∨ i = 3 ∨ i = 4 ∨ i = 5 ∨ i = 6 := by omega
  rcases this with rfl | rfl | rfl | rfl | rfl | rfl | rfl <;> exact cell_at h rfl
theorem below_next2 {g : Nat} {a b c : World} (h : Chg (fun k => k = g) a b) (hb : Below g b c) (hg : g < a.heap.size) : Below g a c := (h.below (fun k hk e => by omega) (by omega)).trans hb
set_option maxRecDepth 100000 in
set_option maxHeartbeats 8000000 in
theorem statement_r (g : Nat) (w : World) (toks : List Tok) (s : RS) (x : Ins) (hT : TokR toks) (h : RAll g w toks s x) (hdims : x.doms.length ≤ 40 ∧ x.hard.length ≤ 200 ∧ x.soft.length ≤ 200) (he : s.e = 0) (h4 : (tkF toks s).kind ≠ 4) :
    Calls Tryz.prog 48 #[.pointer (some ⟨g, 0, none⟩)] w fun e w' => StR g w w' toks s x e := by
  obtain ⟨dv, hv, sv, ok, h, hst⟩ := h
  have hgw := h.lt
  have HT := Lib.hid hT
  have HST := Lib.hid hst
  have hi := h.idx
  have HE := Lib.hid he
  obtain ⟨DA, Dc, rfl, _, _, _⟩ := hst.D.sl (by omega)
  obtain ⟨AH, CH, hHV, _, _, _⟩ := hst.H.sl (by omega)
  obtain ⟨AS, CS, hSV, _, _, _⟩ := hst.S.sl (by omega)
  have HHV := Lib.hid hHV
  have HSV := Lib.hid hSV
  clear hHV hSV
  have HNX : Hid (nextF toks s = ⟨s.i + 1, s.a, s.e⟩) := Lib.hid (next_adv hT hi h4).1
  have H0 := Lib.hid h
  obtain ⟨A, c, hg, hs, _⟩ := h
  have p0 : w.cell? ⟨g, 0, none⟩ = some (.slice A toks.length c) := cell_at hg (i := 0) rfl
  have p1 : w.cell? ⟨g, 1, none⟩ = some (.int .i64 s.i) := cell_at hg (i := 1) rfl
  have hnc : toks.length ≤ 140737488355328 := by have := hT.len; omega
  have HN3 := Lib.hid (fun hx => stm_bad (x := x) hi he hx (P := fun y => y = x))
  have HN7 := Lib.hid (fun hx => stm_many (x := x) hi he hx (P := fun y => y = x))
  have hbl := bytes_eqF (tkF toks s).text
  obtain ⟨t, ht⟩ : ∃ t, tkF toks s = t := ⟨_, rfl⟩
  have HTK := Lib.hid ht
  have hb2 := below_next (Below.drew (Below.refl w.heap.size w)) (below_alloc1 (World.drew w) (.cells #[.int .i64 0, .string ⟨#[]⟩, .int .i64 0, .int .i64 0] 90))
  obtain ⟨b, o, rfl, hb, c0, c1, c2, c3⟩ := tok_at hs hi
  change w.cell? ⟨b, o + s.i * 4, none⟩ = some (.int .i64 (tkF toks s).kind) at c0
  change w.cell? ⟨b, o + s.i * 4 + 1, none⟩ = some (.string ⟨(tkF toks s).text.toArray⟩) at c1
  change w.cell? ⟨b, o + s.i * 4 + 2, none⟩ = some (.int .i64 (tkF toks s).n) at c2
  change w.cell? ⟨b, o + s.i * 4 + 3, none⟩ = some (.int .i64 (tkF toks s).at_) at c3
  rw [ht] at c0 c1 c2 c3 hbl h4
  clear hg hs hT hst he ht
  go_enter Tryz.func48, Tryz.ntmps48
  go_upto_region 0 with fail
  refine wp_region_lexO (fun w' => w'.cell? ⟨g, 0, none⟩ = some (.slice (some ⟨b, o, none⟩) toks.length c) ∧ w'.cell? ⟨g, 1, none⟩ = some (.int .i64 s.i) ∧ w'.cell? ⟨b, o + s.i * 4, none⟩ = some (.int .i64 t.kind) ∧ w'.cell? ⟨b, o + s.i * 4 + 1, none⟩ = some (.string ⟨t.text.toArray⟩) ∧ w'.cell? ⟨b, o + s.i * 4 + 2, none⟩ = some (.int .i64 t.n) ∧ w'.cell? ⟨b, o + s.i * 4 + 3, none⟩ = some (.int .i64 t.at_)) [(0, true), (1, true), (2, true), (3, true), (4, true), (5, true), (6, true), (7, true), (8, true), (9, true), (10, false), (11, false)] (by kernel_rfl) (by kernel_rfl) (fun c a d v w h => by cases d <;> exact h) ?_
  change wpLexO _ _ _ _ _ _ _ (World.drew w)
  have hdr := Below.drew (Below.refl w.heap.size w)
  have p0 := cell_kept hdr p0
  have p1 := cell_kept hdr p1
  have c0 := cell_kept hdr c0
  have c1 := cell_kept hdr c1
  have c2 := cell_kept hdr c2
  have c3 := cell_kept hdr c3
  have HB2 := Lib.hid hb2
  have hWZ : w.heap.size ≤ (World.drew w).heap.size := hdr.size
  clear hdr hb2
  generalize World.drew w = W at *
  repeat (first | (refine lexO_take ⟨p0, p1, c0, c1, c2, c3⟩ rfl (fun w' hw' => by (obtain ⟨q0, q1, d0, d1, d2, d3⟩ := hw'; (try go_simp); try rfl)) (fun K hK => ?_); go_simp; refine hK _ _ ?_; clear hK K))
  refine lexO_step rfl (fun K hK => ?_)
  go_wp2_with fail
  have hal := below_alloc1 W (.cells #[.int .i64 0, .string ⟨#[]⟩, .int .i64 0, .int .i64 0] 90)
  have HX := Lib.hid (heap_alloc_new W (.cells #[.int .i64 0, .string ⟨#[]⟩, .int .i64 0, .int .i64 0] 90))
  have HWZ : Hid (w.heap.size ≤ W.heap.size) := Lib.hid hWZ
  refine hK _ _ ⟨cell_kept hal p0, cell_kept hal p1, cell_kept hal c0, cell_kept hal c1, cell_kept hal c2, cell_kept hal c3⟩ ?_
  clear hK K hal hWZ
  generalize W.alloc (.cells #[.int .i64 0, .string ⟨#[]⟩, .int .i64 0, .int .i64 0] 90) = W4 at *
  refine lexO_store rfl (by kernel_rfl) rfl 90 _ _ rfl W.heap.size #[.int .i64 t.kind, .string ⟨t.text.toArray⟩, .int .i64 t.n, .int .i64 t.at_] rfl rfl 90 _ HX.out (by kernel_rfl) rfl (by simp [Value.oneCell']) ?_
  intro W5 hW5 hg5
  have HB5 := Lib.hid (Below.grownAt HB2.out hg5 HB2.out.size HWZ.out)
  have HX5 := Lib.hid hW5
  generalize W.heap.size = bt at *
  clear hW5 hg5 HX HWZ HB2 p0 p1 c0 c1 c2 c3
  go_upto_block 0 with fail
  have hal := below_alloc1 W5 wordsO
  have HB6 := Lib.hid (below_next HB5.out hal)
  have HX6 := Lib.hid (block_kept hal HX5.out)
  have HWD := Lib.hid (heap_alloc_new W5 wordsO)
  have HGG : Hid (∀ wx, Below (W5.alloc wordsO).heap.size (W5.alloc wordsO) wx → Below w.heap.size w wx ∧ wx.heap[bt]? = some (.cells #[.int .i64 t.kind, .string ⟨t.text.toArray⟩, .int .i64 t.n, .int .i64 t.at_] 90 (0, 0))) := Lib.hid fun wx hb => ⟨below_next HB6.out hb, block_kept hb HX6.out⟩
  change Hid ((W5.alloc wordsO).heap[W5.heap.size]? = some (.cells #[.string ⟨#[]⟩, .string ⟨#[116, 97, 98, 108, 101]⟩, .string ⟨#[102, 111, 114, 98, 105, 100]⟩, .string ⟨#[100, 105, 102, 102]⟩, .string ⟨#[101, 113, 117, 97, 108]⟩, .string ⟨#[114, 105, 115, 105, 110, 103]⟩, .string ⟨#[108, 105, 110, 101, 97, 114]⟩] 9 (0, 0))) at HWD
  generalize W5.alloc wordsO = W6 at *
  generalize W5.heap.size = bw at *
  clear HB5 HX5 hal HB6 HX6
  go_cut [4, 5] from 20 to 36 (fun v4 _ wx => v4 = .int .i64 (kAt t 7) ∧ Below W6.heap.size W6 wx)
  case first =>
    go_wp2_with fail
    go_loopg [4, 5] 6 (fun gm v4 v5 wr => ∃ i : Nat, v4 = .int .i64 (kAt t i) ∧ v5 = .int .i64 i ∧ 1 ≤ i ∧ i ≤ 7 ∧ Hid (Below W6.heap.size W6 wr) ∧ gm = 7 - i)
    case atStart => exact ⟨1, rfl, rfl, Nat.le_refl _, by decide, Lib.hid (Below.refl _ _), rfl⟩
    case round =>
      obtain ⟨i, rfl, rfl, hi1, hi7, HB, hg⟩ := hrel
      have HG := Lib.hid hg
      clear hg
      by_cases h7 : i < 7
      · have hd0 : decide ((i : Int) < 7) = true := decide_eq_true (by omega)
        have hb1 : (i : Int) < 7 := by omega
        have hX := (HGG.out wr HB.out).2
        have x0 := cell_at hX (i := 0) rfl
        have x1 := cell_at hX (i := 1) rfl
        have cw := words_at (block_kept HB.out HWD.out) h7
        have hbe := hbl (nth [] wordsT i)
        have hdr := Below.drew (Below.refl wr.heap.size wr)
        have HB7 := Lib.hid (below_next HB.out hdr)
        have HKS : Hid (kAt t (i + 1) = if t.kind = 1 ∧ t.text = nth [] wordsT i then i else kAt t i) := Lib.hid (by rw [kAt]; simp [show i ≠ 0 by omega])
        clear hX hbl
        generalize (ByteArray.mk (nth [] wordsT i).toArray) = sb at *
        generalize (ByteArray.mk t.text.toArray) = tb at *
        go_upto_region 6 with fail
        refine wp_region_still_tail 11 (by kernel_rfl) (by kernel_rfl) ?_
        change wpStill _ _ (World.drew wr) (fun a' => wpList _ _ _ _ a' (World.drew wr)) _ _
        have x0 := cell_kept hdr x0
        have x1 := cell_kept hdr x1
        have cw := cell_kept hdr cw
        clear hdr HB
        generalize World.drew wr = W7 at *
        simp only [List.take_succ_cons, List.take_zero, List.drop_succ_cons, List.drop_zero]
        by_cases hk : t.kind = 1
        · have hk1 : (t.kind == 1) = true := by simp [hk]
          by_cases hw : t.text = nth [] wordsT i
          · have hbe2 : (tb.toList == sb.toList) = true := by rw [hbe]; exact decide_eq_true hw
            have HKN : Hid (kAt t (i + 1) = i) := Lib.hid (by rw [HKS.out, if_pos ⟨hk, hw⟩])
            clear hk hw hbe
            repeat (first | (refine still_plain rfl (fun K hK => ?_); go_simp; refine hK _ ?_; clear hK K) | (refine still_off _ _ _ _ _ rfl rfl rfl rfl rfl (fun K hK => ?_); go_simp; refine hK _ ?_; clear hK K) | (refine still_on _ _ _ _ rfl rfl rfl rfl (fun K hK => ?_); go_simp; refine hK _ ?_; clear hK K) | (refine still_dead _ _ _ _ rfl rfl rfl rfl (fun K hK => ?_); go_simp; refine hK _ ?_; clear hK K))
            refine wpStill_nil ?_
            go_wp2_with fail
            go_roundg (7 - (i + 1))
            case rel => exact ⟨i + 1, by rw [HKN.out], by simp, by omega, by omega, HB7, rfl⟩
            case measure => have := HG.out; omega
          · have hbe2 : (tb.toList == sb.toList) = false := by rw [hbe]; exact decide_eq_false hw
            have HKN : Hid (kAt t (i + 1) = kAt t i) := Lib.hid (by rw [HKS.out, if_neg (fun h => hw h.2)])
            clear hk hw hbe
            repeat (first | (refine still_plain rfl (fun K hK => ?_); go_simp; refine hK _ ?_; clear hK K) | (refine still_off _ _ _ _ _ rfl rfl rfl rfl rfl (fun K hK => ?_); go_simp; refine hK _ ?_; clear hK K) | (refine still_on _ _ _ _ rfl rfl rfl rfl (fun K hK => ?_); go_simp; refine hK _ ?_; clear hK K) | (refine still_dead _ _ _ _ rfl rfl rfl rfl (fun K hK => ?_); go_simp; refine hK _ ?_; clear hK K))
            refine wpStill_nil ?_
            go_wp2_with fail
            go_roundg (7 - (i + 1))
            case rel => exact ⟨i + 1, by rw [HKN.out], by simp, by omega, by omega, HB7, rfl⟩
            case measure => have := HG.out; omega
        · have hk1 : (t.kind == 1) = false := by simp [hk]
          have HKN : Hid (kAt t (i + 1) = kAt t i) := Lib.hid (by rw [HKS.out, if_neg (fun h => hk h.1)])
          clear hk hbe
          repeat (first | (refine still_plain rfl (fun K hK => ?_); go_simp; refine hK _ ?_; clear hK K) | (refine still_off _ _ _ _ _ rfl rfl rfl rfl rfl (fun K hK => ?_); go_simp; refine hK _ ?_; clear hK K) | (refine still_on _ _ _ _ rfl rfl rfl rfl (fun K hK => ?_); go_simp; refine hK _ ?_; clear hK K) | (refine still_dead _ _ _ _ rfl rfl rfl rfl (fun K hK => ?_); go_simp; refine hK _ ?_; clear hK K))
          refine wpStill_nil ?_
          go_wp2_with fail
          go_roundg (7 - (i + 1))
          case rel => exact ⟨i + 1, by rw [HKN.out], by simp, by omega, by omega, HB7, rfl⟩
          case measure => have := HG.out; omega
      · have hd0 : decide ((i : Int) < 7) = false := decide_eq_false (by omega)
        obtain rfl : i = 7 := by omega
        go_wp2_with fail
        go_meet
        case rel => exact ⟨rfl, HB.out⟩
  case rest =>
    obtain ⟨rfl, hbx⟩ := hcut
    obtain ⟨hgx, hX⟩ := HGG.out wc hbx
    have HG : Hid (Chg (fun k => k = g) w wc) := Lib.hid (chg_of_below hgx _)
    have HP := Lib.hid (H0.out.below hgx)
    have x0 := cell_at hX (i := 0) rfl
    have x1 := cell_at hX (i := 1) rfl
    have HVT : (((ByteArray.mk t.text.toArray).toList == [118, 97, 114])) = decide (t.text = varT) := by have := hbl varT; rw [← this, ByteArray.toList_eq, ByteArray.toList_eq]; rfl
    have HSF : (((ByteArray.mk t.text.toArray).toList == [115, 111, 102, 116])) = decide (t.text = softT) := by have := hbl softT; rw [← this, ByteArray.toList_eq, ByteArray.toList_eq]; rfl
    have p1 := HP.out.cell1
    have p2 := HP.out.cellD
    have p3 : wc.cell? ⟨g, 3, none⟩ = some (.slice AH x.hard.length CH) := by have := HP.out.cellH; rw [HHV.out] at this; exact this
    have p4 : wc.cell? ⟨g, 4, none⟩ = some (.slice AS x.soft.length CS) := by have := HP.out.cellS; rw [HSV.out] at this; exact this
    have hd6 : (s.e != 0) = false := by simp [HE.out]
    have hk6 : kAt t 7 ≤ 6 := kAt_le t 6
    have HK0 := Lib.hid (fun hk => kAt_not (t := t) hk 7)
    have HKL := Lib.hid (fun hk => kAt_law (t := t) hk)
    rw [HTK.out] at HN3 HN7
    clear hbl hX hgx hbx HGG HWD
    generalize hkk : ((kAt t 7 : Nat) : Int) = kk at *
    have hkk6 : kk ≤ 6 := by omega
    by_cases hk : t.kind = 1
    · have hk1 : (t.kind == 1) = true := by simp [hk]
      have hkl := HKL.out hk
      by_cases hv0 : t.text = varT
      · rw [decide_eq_true hv0] at HVT
        rw [hv0] at hkl
        rw [decide_eq_false (by rw [hv0]; decide)] at HSF
        obtain rfl : kk = 0 := hkl
        by_cases h40 : x.doms.length = 40
        · have hd40 : ((x.doms.length : Int) == 40) = true := by simp [h40]
          have HZ := Lib.hid (HN7.out ((stmtQ_var (r' := []) (r2 := []) (u := ()) (e := (0, 0)) hk hv0).1 (by omega)))
          clear hv0 h40 hk hkk
          generalize (ByteArray.mk t.text.toArray) = tb at *
          have hdn : ((nextF toks (failF toks s.i 7 s)).e != 0) = true := by rw [next_e, fail_ok _ _ HE.out]; exact (show ((7 : Int) != 0) = true by decide)
          go_wp2_with (first
            | (go_at_call 80; refine (fail_r g _ toks _ _ _ _ s.i 7 HP.out hi).mono ?_; rintro e W1 ⟨rfl, hp, hc⟩; (have HP := Lib.hid hp); (have HG := Lib.hid (HG.out.trans hc (fun _ _ h => h))); clear hp hc)
            | (go_at_call 81; refine (next_r g _ toks _ _ _ _ HP.out).mono ?_; rintro e W2 ⟨rfl, hp, hc⟩; (have p6 := hp.cell6); (have HP := Lib.hid hp); (have HG := Lib.hid (HG.out.trans hc (fun _ _ h => h))); clear hp hc))
          (try simp only [Exit.inBlock, Exit.then])
          refine bodyPost_ret (results_none rfl _ _ _) rfl ?_
          exact ⟨_, x, rfl, ⟨_, _, _, _, HP.out, (HST.out.chg HG.out (fun k hk => by omega)).later HG.out.size⟩, HG.out.below (fun k hk e => by omega) (by omega), hdims, HZ.out⟩
        · have hd40 : ((x.doms.length : Int) == 40) = false := by simp; omega
          have HZZ := Lib.hid (fun (d : List Int) (s' : RS) (h : DomP toks ⟨s.i + 1, s.a, s.e⟩ d s') => stm_var (x := x) (sC := ⟨s.i + 1, s.a, s.e⟩) hi (by rw [HTK.out]; exact hk) (by rw [HTK.out]; exact hv0) (by omega) rfl HE.out h)
          clear hv0 hk hkk
          generalize (ByteArray.mk t.text.toArray) = tb at *
          go_wp2_with (first
            | (go_at_call 81; refine (next_r g _ toks _ _ _ _ HP.out).mono ?_; rw [HNX.out]; rintro e W2 ⟨rfl, hp, hc⟩; (have p6 := hp.cell6); (have HG := Lib.hid (HG.out.trans hc (fun _ _ h => h))); (have HA := Lib.hid (show RAll g W2 toks ⟨s.i + 1, s.a, s.e⟩ x from ⟨_, _, _, _, hp, (HST.out.chg HG.out (fun k hk => by omega)).later HG.out.size⟩)); clear hp hc)
            | (go_at_call 82; refine (domain_r g _ toks _ x HT.out HA.out (by omega)).mono ?_; rintro e W3 ⟨d, s', rfl, hq, hb, hdp⟩; (have HQ := Lib.hid hq); (have HB := Lib.hid hb); (have HZ := Lib.hid (HZZ.out _ _ hdp)); clear hq hb hdp))
          go_end0
          exact ⟨_, _, rfl, HQ.out, below_next2 HG.out HB.out hgw, ⟨by simp; omega, by simp; omega, by simp; omega⟩, HZ.out⟩
      · rw [decide_eq_false hv0] at HVT
        by_cases hs0 : t.text = softT
        · rw [decide_eq_true hs0] at HSF
          rw [hs0] at hkl
          obtain rfl : kk = 0 := hkl
          by_cases h40 : x.soft.length = 200
          · have hd40 : ((x.soft.length : Int) == 200) = true := by simp [h40]
            have HZ := Lib.hid (HN7.out ((stmtQ_soft (r' := []) (r2 := []) (u := ()) (e := (0, 0)) hk hs0).1 (by omega)))
            clear hs0 h40 hk hkk hv0
            generalize (ByteArray.mk t.text.toArray) = tb at *
            have hdn : ((nextF toks (failF toks s.i 7 s)).e != 0) = true := by rw [next_e, fail_ok _ _ HE.out]; exact (show ((7 : Int) != 0) = true by decide)
            go_wp2_with (first
              | (go_at_call 80; refine (fail_r g _ toks _ _ _ _ s.i 7 HP.out hi).mono ?_; rintro e W1 ⟨rfl, hp, hc⟩; (have HP := Lib.hid hp); (have HG := Lib.hid (HG.out.trans hc (fun _ _ h => h))); clear hp hc)
              | (go_at_call 81; refine (next_r g _ toks _ _ _ _ HP.out).mono ?_; rintro e W2 ⟨rfl, hp, hc⟩; (have p6 := hp.cell6); (have HP := Lib.hid hp); (have HG := Lib.hid (HG.out.trans hc (fun _ _ h => h))); clear hp hc))
            (try simp only [Exit.inBlock, Exit.then])
            refine bodyPost_ret (results_none rfl _ _ _) rfl ?_
            exact ⟨_, x, rfl, ⟨_, _, _, _, HP.out, (HST.out.chg HG.out (fun k hk => by omega)).later HG.out.size⟩, HG.out.below (fun k hk e => by omega) (by omega), hdims, HZ.out⟩
          · have hd40 : ((x.soft.length : Int) == 200) = false := by simp; omega
            have HZZ := Lib.hid (fun (d : Sft) (s' : RS) h => stm_soft (x := x) (s' := s') (d := d) (sC := ⟨s.i + 1, s.a, s.e⟩) hi (by rw [HTK.out]; exact hk) (by rw [HTK.out]; exact hs0) (by omega) rfl h)
            clear hs0 hk hkk hv0
            generalize (ByteArray.mk t.text.toArray) = tb at *
            go_wp2_with (first
              | (go_at_call 81; refine (next_r g _ toks _ _ _ _ HP.out).mono ?_; rw [HNX.out]; rintro e W2 ⟨rfl, hp, hc⟩; (have p6 := hp.cell6); (have HG := Lib.hid (HG.out.trans hc (fun _ _ h => h))); (have HA := Lib.hid (show RAll g W2 toks ⟨s.i + 1, s.a, s.e⟩ x from ⟨_, _, _, _, hp, (HST.out.chg HG.out (fun k hk => by omega)).later HG.out.size⟩)); clear hp hc)
              | (go_at_call 83; refine (softs_r g _ toks _ x HT.out HA.out (by omega) (by omega)).mono ?_; rintro e W3 ⟨d, s', rfl, hq, hb, _, hdp⟩; (have HQ := Lib.hid hq); (have HB := Lib.hid hb); (have HZ := Lib.hid (HZZ.out _ _ (hdp HE.out))); clear hq hb hdp))
            go_end0
            exact ⟨_, _, rfl, HQ.out, below_next2 HG.out HB.out hgw, ⟨by simp; omega, by simp; omega, by simp; omega⟩, HZ.out⟩
        · rw [decide_eq_false hs0] at HSF
          by_cases hw : 0 < wordFrom t.text 0 wordsT
          · rw [if_pos hw] at hkl
            have hkp : 0 < kk := by omega
            have hd0 : (kk == 0) = false := by simp; omega
            have hdp : decide (0 < kk) = true := decide_eq_true hkp
            by_cases h40 : x.hard.length = 200
            · have hd40 : ((x.hard.length : Int) == 200) = true := by simp [h40]
              have HZ := Lib.hid (HN7.out ((stmtQ_hard (r' := []) (r2 := []) (u := ()) (e := (0, 0)) hkl hk hkp hv0 hs0).1 (by omega)))
              clear hkl hs0 h40 hk hkk hv0 hw
              generalize (ByteArray.mk t.text.toArray) = tb at *
              have hdn : ((nextF toks (failF toks s.i 7 s)).e != 0) = true := by rw [next_e, fail_ok _ _ HE.out]; exact (show ((7 : Int) != 0) = true by decide)
              go_wp2_with (first
                | (go_at_call 80; refine (fail_r g _ toks _ _ _ _ s.i 7 HP.out hi).mono ?_; rintro e W1 ⟨rfl, hp, hc⟩; (have HP := Lib.hid hp); (have HG := Lib.hid (HG.out.trans hc (fun _ _ h => h))); clear hp hc)
                | (go_at_call 81; refine (next_r g _ toks _ _ _ _ HP.out).mono ?_; rintro e W2 ⟨rfl, hp, hc⟩; (have p6 := hp.cell6); (have HP := Lib.hid hp); (have HG := Lib.hid (HG.out.trans hc (fun _ _ h => h))); clear hp hc))
              (try simp only [Exit.inBlock, Exit.then])
              refine bodyPost_ret (results_none rfl _ _ _) rfl ?_
              exact ⟨_, x, rfl, ⟨_, _, _, _, HP.out, (HST.out.chg HG.out (fun k hk => by omega)).later HG.out.size⟩, HG.out.below (fun k hk e => by omega) (by omega), hdims, HZ.out⟩
            · have hd40 : ((x.hard.length : Int) == 200) = false := by simp; omega
              have HZZ := Lib.hid (fun (d : Con) (s' : RS) h => stm_hard (x := x) (s' := s') (d := d) (sC := ⟨s.i + 1, s.a, s.e⟩) (kw := kk) hi (by rw [HTK.out]; exact hkl) (by rw [HTK.out]; exact hk) hkp (by rw [HTK.out]; exact hv0) (by rw [HTK.out]; exact hs0) (by omega) rfl h)
              clear hkl hs0 hk hkk hv0 hw
              generalize (ByteArray.mk t.text.toArray) = tb at *
              by_cases hk6' : kk = 6
              · subst hk6'
                go_wp2_with (first
                  | (go_at_call 81; refine (next_r g _ toks _ _ _ _ HP.out).mono ?_; rw [HNX.out]; rintro e W2 ⟨rfl, hp, hc⟩; (have p6 := hp.cell6); (have HG := Lib.hid (HG.out.trans hc (fun _ _ h => h))); (have HA := Lib.hid (show RAll g W2 toks ⟨s.i + 1, s.a, s.e⟩ x from ⟨_, _, _, _, hp, (HST.out.chg HG.out (fun k hk => by omega)).later HG.out.size⟩)); clear hp hc)
                  | (go_at_call 84; refine (linear_r g _ toks _ x HT.out HA.out (by omega) (by omega)).mono ?_; rintro e W3 ⟨d, s', rfl, hq, hb, _, hdp⟩; (have HQ := Lib.hid hq); (have HB := Lib.hid hb); (have HZ := Lib.hid (HZZ.out _ _ (hdp HE.out))); clear hq hb hdp))
                go_end0
                exact ⟨_, _, rfl, HQ.out, below_next2 HG.out HB.out hgw, ⟨by simp; omega, by simp; omega, by simp; omega⟩, HZ.out⟩
              · have hd66 : (kk == 6) = false := by simpa using hk6'
                by_cases hk2 : kk ≤ 2
                · have hd2 : decide (2 < kk) = false := decide_eq_false (by omega)
                  go_wp2_with (first
                    | (go_at_call 81; refine (next_r g _ toks _ _ _ _ HP.out).mono ?_; rw [HNX.out]; rintro e W2 ⟨rfl, hp, hc⟩; (have p6 := hp.cell6); (have HG := Lib.hid (HG.out.trans hc (fun _ _ h => h))); (have HA := Lib.hid (show RAll g W2 toks ⟨s.i + 1, s.a, s.e⟩ x from ⟨_, _, _, _, hp, (HST.out.chg HG.out (fun k hk => by omega)).later HG.out.size⟩)); clear hp hc)
                    | (go_at_call 87; refine (tables_r g _ toks _ x kk HT.out HA.out (by omega) (by omega) hk6' hk2).mono ?_; rintro e W3 ⟨d, s', rfl, hq, hb, _, hdp⟩; (have HQ := Lib.hid hq); (have HB := Lib.hid hb); (have HZ := Lib.hid (HZZ.out _ _ (hdp HE.out))); clear hq hb hdp))
                  go_end0
                  exact ⟨_, _, rfl, HQ.out, below_next2 HG.out HB.out hgw, ⟨by simp; omega, by simp; omega, by simp; omega⟩, HZ.out⟩
                · have hd2 : decide (2 < kk) = true := decide_eq_true (by omega)
                  obtain ⟨kind, hkind⟩ : ∃ kind, kind = kk := ⟨_, rfl⟩
                  subst hkind
                  go_upto_region 25 with (first
                    | (go_at_call 81; refine (next_r g _ toks _ _ _ _ HP.out).mono ?_; rw [HNX.out]; rintro e W2 ⟨rfl, hp, hc⟩; (have p6 := hp.cell6); (have HP := Lib.hid hp); (have HG := Lib.hid (HG.out.trans hc (fun _ _ h => h))); clear hp hc)
                    | (go_at_call 85; refine (scope_r g _ toks _ DA x.doms.length Dc _ _ HT.out (by omega) HP.out).mono ?_; rintro e W1 ⟨sc, sA, vs, rfl, ho, hp, hc, hpp⟩; (have HO := Lib.hid ho); (have HP := Lib.hid hp); (have HC := Lib.hid (HG.out.trans hc (fun _ _ h => h))); (have HPP := Lib.hid hpp); (have hw12 := hc.size); (have hw02 := HG.out.size); (obtain ⟨SA, Sc, rfl, _, _, _⟩ := ho.sl (by have := hpp.2.2.1; omega)); clear ho hp hc hpp))
                  have hal := below_alloc1 W1 (.cells #[.int .i64 kind, .slice SA sc.length Sc, .slice none 0 0, .slice none 0 0] 43)
                  have hTS : ConAt W1.heap.size (W1.alloc (.cells #[.int .i64 kind, .slice SA sc.length Sc, .slice none 0 0, .slice none 0 0] 43)) kind (.slice SA sc.length Sc) (.slice none 0 0) (.slice none 0 0) := heap_alloc_new W1 _
                  have HTS := Lib.hid hTS
                  have HP1 := Lib.hid (HP.out.below hal)
                  have HG1 := Lib.hid (HC.out.thenBelow hal)
                  have HS := Lib.hid ((HO.out.done (B := w.heap.size) (by have := HPP.out.2.2.1; omega) (by omega)).below (by decide) hal)
                  have hgc := HC.out.size
                  have hgb : (W1.alloc (.cells #[.int .i64 kind, .slice SA sc.length Sc, .slice none 0 0, .slice none 0 0] 43)).heap.size = W1.heap.size + 1 := by simp
                  clear hal hTS HP HC HO HG x0 x1 p1 p2 p3 p4 p6
                  generalize W1.alloc (.cells #[.int .i64 kind, .slice SA sc.length Sc, .slice none 0 0, .slice none 0 0] 43) = Wb at *
                  generalize W1.heap.size = gc at *
                  have hsA := HP1.out.idx
                  have HEND := Lib.hid (HZZ.out ⟨kind, sc, [], []⟩ _ (ag_sign HT.out hsA (hard_bare hk6' (by omega) HPP.out HE.out)))
                  go_upto_region 26 with (go_at_call 86; refine (sign_r g _ toks sA _ _ _ [59] HP1.out).mono ?_; rintro e V0 ⟨rfl, hp, hc⟩; (have HP9 := Lib.hid hp); (have HC6 := Lib.hid hc); clear hp hc)
                  have HC9 := Lib.hid (show ConAt gc V0 kind _ _ _ from HC6.out.heap HTS.out (fun e => by omega))
                  have HG9 : Hid (Chg (fun k => k = g ∨ k = gc) w V0) := Lib.hid ((HG1.out.mono (T := fun k => k = g ∨ k = gc) (fun _ _ h => Or.inl h)).trans HC6.out (fun _ _ h => Or.inl h))
                  have HS9a := Lib.hid (((HS.out.chg (by decide) HC6.out (fun k hk e => by omega)).below (by decide) (Below.drew (Below.refl V0.heap.size V0))).mono (ok' := fun k => w.heap.size ≤ k ∧ k < (World.drew V0).heap.size) (fun k hk => ⟨hk.1, Nat.lt_trans hk.2 (show gc < V0.heap.size from lt_of_block HC9.out)⟩))
                  clear HTS HP1 HG1 HS HC6
                  have hszv := HG9.out.size
                  have hs9' : PSt g (World.drew V0).heap.size (World.drew V0) x (.slice DA x.doms.length Dc) hv sv (fun k => ok k ∨ (w.heap.size ≤ k ∧ k < (World.drew V0).heap.size)) := (HST.out.chg HG9.out.drew (fun k hk => by omega)).fill hszv hgw
                  have HKX := Lib.hid (show kCon.K (World.drew V0) (fun k => ok k ∨ (w.heap.size ≤ k ∧ k < (World.drew V0).heap.size)) ⟨kind, sc, ([] : List (List Int)), ([] : List Int)⟩ [.int .i64 kind, (.slice SA sc.length Sc), (.slice none 0 0), (.slice none 0 0)] from con_K (HS9a.out.mono fun _ h => Or.inr h) ((sl_nil none 0).mono fun _ h => Or.inr h) ((sl_nil none 0).mono fun _ h => Or.inr h))
                  obtain ⟨HA9, Hc9, hHv, _, _, _⟩ := hs9'.H.sl (by omega)
                  subst hHv
                  have HS9 := Lib.hid hs9'
                  have hdr9 := Below.drew (Below.refl V0.heap.size V0)
                  have HP10 := Lib.hid (HP9.out.below hdr9)
                  have HG10 := Lib.hid HG9.out.drew
                  have hc10 : ConAt gc (World.drew V0) kind (.slice SA sc.length Sc) (.slice none 0 0) (.slice none 0 0) := HC9.out
                  have x1 := HP10.out.cellH
                  have x2 : (World.drew V0).cell? ⟨gc, 0, none⟩ = some (.int .i64 kind) := cell_at hc10 (i := 0) rfl
                  have x3 : (World.drew V0).cell? ⟨gc, 1, none⟩ = some ((.slice SA sc.length Sc)) := cell_at hc10 (i := 1) rfl
                  have x4 : (World.drew V0).cell? ⟨gc, 2, none⟩ = some ((.slice none 0 0)) := cell_at hc10 (i := 2) rfl
                  have x5 : (World.drew V0).cell? ⟨gc, 3, none⟩ = some ((.slice none 0 0)) := cell_at hc10 (i := 3) rfl
                  have HC10 := Lib.hid hc10
                  clear hc10 hs9' HP9 HG9 HC9 HST hdr9
                  obtain ⟨iC, hiC, hC0, hC1, hC2⟩ := info_parts (show (Tryz.prog.info? 43).map (fun i => (i.zero, i.size, i.bytes)) = some (some (.agg #[.int .i64 0, .slice none 0 0, .slice none 0 0, .slice none 0 0]), 4, 80) by kernel_rfl)
                  refine wp_region_lex (fun w' => w'.cell? ⟨g, 3, none⟩ = some (.slice HA9 x.hard.length Hc9) ∧ w'.cell? ⟨gc, 0, none⟩ = some (.int .i64 kind) ∧ w'.cell? ⟨gc, 1, none⟩ = some ((.slice SA sc.length Sc)) ∧ w'.cell? ⟨gc, 2, none⟩ = some ((.slice none 0 0)) ∧ w'.cell? ⟨gc, 3, none⟩ = some ((.slice none 0 0))) [true, true, true, true, true, true, true, false, false, false, false, false, false] (by kernel_rfl) (by kernel_rfl) (fun c a d v w h => by cases d <;> exact h) ?_
                  change wpLex _ _ _ _ _ _ _ _ _ (World.drew V0)
                  have hV : V0.heap.size ≤ (World.drew V0).heap.size := Nat.le_refl _
                  generalize World.drew V0 = V at *
                  repeat (first | (refine lex_take ⟨x1, x2, x3, x4, x5⟩ rfl (fun w' hw' => by (obtain ⟨y1, y2, y3, y4, y5⟩ := hw'; (try go_simp); try rfl)) (fun K hK => ?_); go_simp; refine hK _ _ ?_; clear hK K) | (refine lex_take_on _ _ _ _ ⟨x1, x2, x3, x4, x5⟩ rfl rfl rfl rfl (fun w' hw' => by (obtain ⟨y1, y2, y3, y4, y5⟩ := hw'; (try go_simp); try rfl)) (fun K hK => ?_); go_simp; refine hK _ _ ?_; clear hK K) | (refine lex_take_off _ _ _ _ _ ⟨x1, x2, x3, x4, x5⟩ rfl rfl rfl rfl rfl (fun K hK => ?_); go_simp; refine hK _ _ ?_; clear hK K))
                  refine lex_step rfl (fun K hK => ?_)
                  go_wp2_with fail
                  have hal9 := below_alloc1 V (.cells #[.int .i64 kind, (.slice SA sc.length Sc), (.slice none 0 0), (.slice none 0 0)] 43)
                  refine hK _ _ ⟨cell_kept hal9 x1, cell_kept hal9 x2, cell_kept hal9 x3, cell_kept hal9 x4, cell_kept hal9 x5⟩ ?_
                  clear hK K hal9
                  have HS11 := Lib.hid (HS9.out.chg (Chg.alloc0 V (.cells #[.int .i64 kind, (.slice SA sc.length Sc), (.slice none 0 0), (.slice none 0 0)] 43) (fun _ => False)) (fun _ h => h.elim))
                  have HK11 := Lib.hid (kCon.chg HKX.out (Chg.alloc0 V (.cells #[.int .i64 kind, (.slice SA sc.length Sc), (.slice none 0 0), (.slice none 0 0)] 43) (fun _ => False)) (fun _ _ h => h))
                  obtain ⟨css, hcs1, hcs2⟩ := HS11.out.H.open_
                  have HCS1 := Lib.hid hcs1
                  have HCS2 := Lib.hid hcs2
                  have HHO := Lib.hid (fun k hk => HS9.out.H.own k hk)
                  clear hcs1 hcs2
                  refine lex_step rfl (fun K hK => ?_)
                  refine wp_append_lies _ _ _ 23 rfl (g + 1) 43 iC _ 4 80 Tryz.underlying23 hiC hC0 hC1 hC2 rfl (by decide) (.slice HA9 x.hard.length Hc9) x.hard.length css.flatten rfl HCS2.out ⟨_, 0, none⟩ 1 1 [.int .i64 kind, (.slice SA sc.length Sc), (.slice none 0 0), (.slice none 0 0)] rfl rfl (World.news_of_block (cs := #[.int .i64 kind, (.slice SA sc.length Sc), (.slice none 0 0), (.slice none 0 0)]) (t := 43) (fr := (0, 0)) (heap_alloc_new V _)) (by simp [Value.oneCell']) (by decide) (by simp only [maxLen]; omega) (by omega) (by simp; omega) (V.heap.size + 1) (by simp) ?_
                  intro kb cap V3 hown hgrow hat hlt
                  have hF3 : Chg (fun k => (Value.slice HA9 x.hard.length Hc9).ownBlock = some k) V V3 := (Chg.alloc0 V _ _).trans (chg_of_grown hgrow) (fun _ _ h => h)
                  have HS12 := Lib.hid (HS11.out.addH (by simp) HCS1.out HK11.out hgrow hown (hat_of hat (by simp)))
                  have HP12 := Lib.hid (HP10.out.chg hF3 (fun k hk e => by have := (HHO.out k e).1; omega))
                  have hc12 : ConAt gc V3 kind (.slice SA sc.length Sc) (.slice none 0 0) (.slice none 0 0) := hF3.heap HC10.out (fun e => (HHO.out _ e).2.2 (Or.inr ⟨by omega, by have := lt_of_block HC10.out; omega⟩))
                  have y1 := HP12.out.cellH
                  have yf := HP12.out.froz 3
                  have y2 : V3.cell? ⟨gc, 0, none⟩ = some (.int .i64 kind) := cell_at hc12 (i := 0) rfl
                  have y3 : V3.cell? ⟨gc, 1, none⟩ = some ((.slice SA sc.length Sc)) := cell_at hc12 (i := 1) rfl
                  have y4 : V3.cell? ⟨gc, 2, none⟩ = some ((.slice none 0 0)) := cell_at hc12 (i := 2) rfl
                  have y5 : V3.cell? ⟨gc, 3, none⟩ = some ((.slice none 0 0)) := cell_at hc12 (i := 3) rfl
                  have HG12 := Lib.hid ((HG10.out.mono (fun j _ h => (by omega : g ≤ j))).trans hF3 (fun j hj e => by have := (HHO.out j e).1; omega))
                  clear hown hgrow hat hF3 hc12
                  refine hK _ _ ⟨y1, y2, y3, y4, y5⟩ ?_
                  clear hK K
                  refine lex_list _ _ _ _ _ rfl (by kernel_rfl) ?_
                  go_wp2
                  go_end0
                  refine ⟨_, _, rfl, ⟨_, _, _, _, HP12.out.setH _, (HS12.out.chg (chg_setCell V3 g 3 _) (fun k hk => by omega)).later (by rw [Go.Deep.nblk_setCell]; exact Nat.le_refl _)⟩, ?_, ⟨by simp; omega, by simp; omega, by simp; omega⟩, HEND.out⟩
                  exact (HG12.out.trans (chg_setCell V3 g 3 _) (fun j _ e => by omega)).below (fun k hk e => by omega) (by omega)
          · rw [if_neg hw] at hkl
            subst hkl
            have HZ := Lib.hid (HN3.out (fun h => by rcases h.2 with h | h | h; exact hw h; exact hv0 h; exact hs0 h))
            clear hs0 hk hkk hv0 hw
            generalize (ByteArray.mk t.text.toArray) = tb at *
            have hdn : ((nextF toks (failF toks s.i 3 s)).e != 0) = true := by rw [next_e, fail_ok _ _ HE.out]; exact (show ((3 : Int) != 0) = true by decide)
            go_wp2_with (first
              | (go_at_call 80; refine (fail_r g _ toks _ _ _ _ s.i 3 HP.out hi).mono ?_; rintro e W1 ⟨rfl, hp, hc⟩; (have HP := Lib.hid hp); (have HG := Lib.hid (HG.out.trans hc (fun _ _ h => h))); clear hp hc)
              | (go_at_call 81; refine (next_r g _ toks _ _ _ _ HP.out).mono ?_; rintro e W2 ⟨rfl, hp, hc⟩; (have p6 := hp.cell6); (have HP := Lib.hid hp); (have HG := Lib.hid (HG.out.trans hc (fun _ _ h => h))); clear hp hc))
            (try simp only [Exit.inBlock, Exit.then])
            refine bodyPost_ret (results_none rfl _ _ _) rfl ?_
            exact ⟨_, x, rfl, ⟨_, _, _, _, HP.out, (HST.out.chg HG.out (fun k hk => by omega)).later HG.out.size⟩, HG.out.below (fun k hk e => by omega) (by omega), hdims, HZ.out⟩
    · have hk1 : (t.kind == 1) = false := by simp [hk]
      have hkl := HK0.out hk
      obtain rfl : kk = 0 := by omega
      have HZ := Lib.hid (HN3.out (fun h => hk h.1))
      clear hkl hk hkk
      generalize (ByteArray.mk t.text.toArray) = tb at *
      have hdn : ((nextF toks (failF toks s.i 3 s)).e != 0) = true := by rw [next_e, fail_ok _ _ HE.out]; exact (show ((3 : Int) != 0) = true by decide)
      go_wp2_with (first
        | (go_at_call 80; refine (fail_r g _ toks _ _ _ _ s.i 3 HP.out hi).mono ?_; rintro e W1 ⟨rfl, hp, hc⟩; (have HP := Lib.hid hp); (have HG := Lib.hid (HG.out.trans hc (fun _ _ h => h))); clear hp hc)
        | (go_at_call 81; refine (next_r g _ toks _ _ _ _ HP.out).mono ?_; rintro e W2 ⟨rfl, hp, hc⟩; (have p6 := hp.cell6); (have HP := Lib.hid hp); (have HG := Lib.hid (HG.out.trans hc (fun _ _ h => h))); clear hp hc))
      (try simp only [Exit.inBlock, Exit.then])
      refine bodyPost_ret (results_none rfl _ _ _) rfl ?_
      exact ⟨_, x, rfl, ⟨_, _, _, _, HP.out, (HST.out.chg HG.out (fun k hk => by omega)).later HG.out.size⟩, HG.out.below (fun k hk e => by omega) (by omega), hdims, HZ.out⟩
end Go.Proofs.YtoahaigfjfeopaaGreatDoor

/- arboristref06.Parse. -/
namespace Go.Proofs.YtoahaigfjfeopaaGreatDoor
open Go.RowKit
attribute [local irreducible] wpStill wpLex wpLexO wpPlan Calls

theorem results_cell_two {fn : Func} {p q r : Tmp} {ty : TypeId} (h : fn.results = #[.cell p ty, .tmp q, .tmp r]) (tmps : Array Value) (P : Program) (w : World) (g : Nat) (cs : Array Value)
    (hp : tmps.getD p undef = .pointer (some ⟨g, 0, none⟩)) (hl : Sem.run P (loadVar ty ⟨g, 0, none⟩) w = .ok (.agg cs) w) :
    (results fn tmps).run P w = .ok (.tuple #[.agg cs, tmps.getD q undef, tmps.getD r undef]) w := by
  have hp' : tmps[p]?.getD undef = .pointer (some ⟨g, 0, none⟩) := by simpa using hp
  simp [results, h, hp', asAddr, hl]
theorem three_sets {w : World} {n : Nat} {t : TypeId} {a b c : Value} (h : w.heap[n]? = some (.cells #[a, b, c] t (0, 0))) (A B C : Value) :
    (((w.setCell ⟨n, 0, none⟩ A).setCell ⟨n, 1, none⟩ B).setCell ⟨n, 2, none⟩ C).heap[n]? = some (.cells #[A, B, C] t (0, 0)) ∧ Chg (fun k => k = n) w (((w.setCell ⟨n, 0, none⟩ A).setCell ⟨n, 1, none⟩ B).setCell ⟨n, 2, none⟩ C) :=
  ⟨by simp [World.setCell, Array.getElem?_modify, h], ((chg_setCell w n 0 _).trans (chg_setCell _ n 1 _) (fun _ _ h => h)).trans (chg_setCell _ n 2 _) (fun _ _ h => h)⟩
abbrev insZ : Obj := .cells #[.slice none 0 0, .slice none 0 0, .slice none 0 0] 26
theorem PSt.inst {g B : Nat} {w : World} {x : Ins} {dv hv sv : Value} {ok : Nat → Prop} (h : PSt g w.heap.size w x dv hv sv ok) (hB : B ≤ g) (h1 : x.doms.length ≤ 140737488355328) (h2 : x.hard.length ≤ 140737488355328) (h3 : x.soft.length ≤ 140737488355328) : InsAt w (B ≤ ·) dv hv sv x :=
  ⟨(h.D.sl h1).mono fun k hk => by rcases hk with hk | hk; have := h.okg k hk; omega; have := h.D.own k hk; omega,
    (h.H.sl h2).mono fun k hk => by rcases hk with hk | hk; have := h.okg k hk; omega; have := h.H.own k hk; omega,
    (h.S.sl h3).mono fun k hk => by rcases hk with hk | hk; have := h.okg k hk; omega; have := h.S.own k hk; omega⟩
set_option maxRecDepth 100000 in
set_option maxHeartbeats 8000000 in
theorem refparse_any (l : List UInt8) (w : World) (hl : l.length ≤ 140737488355328) :
    Calls Tryz.prog 19 #[.string ⟨l.toArray⟩] w fun e w' => ParseOut w w' (parseP l) e ∧ Below w.heap.size w w' := by
  have hal := below_alloc1 w insZ
  have HB1 := Lib.hid hal
  have HX1 : Hid ((w.alloc insZ).heap[w.heap.size]? = some (.cells #[.slice none 0 0, .slice none 0 0, .slice none 0 0] 26 (0, 0))) := Lib.hid (heap_alloc_new w insZ)
  have HALL := Lib.hid (refall_any l (w.alloc insZ) hl)
  have hsz1 : (w.alloc insZ).heap.size = w.heap.size + 1 := by simp
  clear hal
  go_enter Tryz.func19, Tryz.ntmps19
  go_upto_region 1 with fail
  generalize w.alloc insZ = W1 at *
  cases hq : allP l with
  | error p =>
    obtain ⟨p, x⟩ := p
    have HR : Hid (parseP l = .error ((p : Int), x)) := Lib.hid (by rw [parseP, hq])
    have hx0 : (x != 0) = true := by simpa using allP_err hq
    rw [hq] at HALL
    clear hq
    go_wp2_with (go_at_call 47; refine HALL.out.mono ?_; rintro e W2 ⟨he, hb⟩; obtain rfl : e = .returned (.tuple #[.slice none 0 0, .int .i64 p, .int .i64 x]) := he; (have HX2 := Lib.hid (block_kept hb HX1.out)); (have HB2 := Lib.hid (below_next HB1.out hb)); (have f := fun i => Lib.frozen_of_heap HX2.out i); (have x0 := cell_at HX2.out (i := 0) rfl); (have x1 := cell_at HX2.out (i := 1) rfl); (have x2 := cell_at HX2.out (i := 2) rfl); clear hb HALL HX1)
    obtain ⟨h1, h2⟩ := three_sets HX2.out (.slice none 0 0) (.slice none 0 0) (.slice none 0 0)
    refine bodyPost_ret (results_cell_two rfl _ _ _ w.heap.size #[.slice none 0 0, .slice none 0 0, .slice none 0 0] rfl (run_loadVar_row _ _ 26 26 _ (0, 0) _ h1 Tryz.underlying26 rfl (by kernel_rfl))) rfl ?_
    rw [HR.out]
    exact ⟨rfl, HB2.out.trans (h2.below (B := w.heap.size) (fun k hk e => by omega) HB2.out.size)⟩
  | ok toks =>
    have HR : Hid (parseP l = stmtsQ (toks.length + 1) ⟨[], [], []⟩ toks) := Lib.hid (by rw [parseP, hq])
    have HT := Lib.hid (tokR_of hq)
    rw [hq] at HALL
    have htl := HT.out.len
    have hne : 0 < toks.length := by obtain ⟨t, r, rfl⟩ := (allP_ok hq).cons; simp
    clear hq
    go_upto_region 4 with (go_at_call 47; refine HALL.out.mono ?_; rintro e W2 ⟨⟨v, rfl, ho, _⟩, hb⟩; (have HX2 := Lib.hid (block_kept hb HX1.out)); (have HB2 := Lib.hid (below_next HB1.out hb)); (have HS2 := Lib.hid ((ho.sl (by omega)).move (w1 := W2) (by decide) fun _ _ _ => rfl)); (obtain ⟨A, c, rfl, _, _, _⟩ := ho.sl (by omega)); clear hb ho HALL HX1 HB1)
    have hal := below_alloc1 W2 (.cells #[.slice A toks.length c, .int .i64 0, .slice none 0 0, .slice none 0 0, .slice none 0 0, .int .i64 0, .int .i64 0] 89)
    have HA0 : Hid (RAll W2.heap.size (W2.alloc (.cells #[.slice A toks.length c, .int .i64 0, .slice none 0 0, .slice none 0 0, .slice none 0 0, .int .i64 0, .int .i64 0] 89)) toks ⟨0, 0, 0⟩ ⟨[], [], []⟩) := Lib.hid
      ⟨_, _, _, fun _ => False, ⟨A, c, heap_alloc_new W2 _, (HS2.out.below (by decide) hal).mono fun k h => h.2, hne⟩, OwnD.nil _ _ _ _ _, OwnD.nil _ _ _ _ _, OwnD.nil _ _ _ _ _, fun _ h => h.elim, fun k h => by simp [Value.ownBlock] at h, fun k h => by simp [Value.ownBlock] at h, fun k h => by simp [Value.ownBlock] at h⟩
    have HX3 := Lib.hid (block_kept hal HX2.out)
    have HB3 := Lib.hid (below_next HB2.out hal)
    have hgw := HB2.out.size
    have hkg : w.heap.size < W2.heap.size := lt_of_block HX2.out
    have hgb : (W2.alloc (.cells #[.slice A toks.length c, .int .i64 0, .slice none 0 0, .slice none 0 0, .slice none 0 0, .int .i64 0, .int .i64 0] 89)).heap.size = W2.heap.size + 1 := by simp
    clear hal HS2 HX2 HB2
    go_wp2_with fail
    generalize W2.alloc (.cells #[.slice A toks.length c, .int .i64 0, .slice none 0 0, .slice none 0 0, .slice none 0 0, .int .i64 0, .int .i64 0] 89) = W3 at *
    generalize W2.heap.size = g at *
    go_loopg [] (parM toks ⟨0, 0, 0⟩) (fun gm wr => ∃ (x : Ins) (q : RS), Hid (RAll g wr toks q x) ∧ Hid (ParI toks x q) ∧ Hid (Below g W3 wr) ∧ gm = parM toks q)
    case atStart => exact ⟨_, _, HA0, Lib.hid par_first, Lib.hid (Below.refl _ _), rfl⟩
    case round =>
      clear HA0
      obtain ⟨x, q, HA, HI, HC, hg⟩ := hrel
      have HG := Lib.hid hg
      obtain ⟨dv, hv, sv, ok, hp, hst⟩ := HA.out
      have hdims := HI.out.dims
      obtain ⟨DA, Dc, rfl, _, _, _⟩ := hst.D.sl (by omega)
      obtain ⟨AH, CH, rfl, _, _, _⟩ := hst.H.sl (by omega)
      obtain ⟨AS, CS, rfl, _, _, _⟩ := hst.S.sl (by omega)
      have HST := Lib.hid hst
      have HP := Lib.hid hp
      have hqi := hp.idx
      have hX := HC.out.block _ hkg
      have HXr : Hid (wr.heap[w.heap.size]? = some (.cells #[.slice none 0 0, .slice none 0 0, .slice none 0 0] 26 (0, 0))) := Lib.hid (hX.trans HX3.out)
      have HBr : Hid (Below w.heap.size w wr) := Lib.hid (HB3.out.trans (HC.out.mono (by omega)))
      have hr6 := hp.cell6
      obtain ⟨AT, CT, hb0, hs0, _⟩ := hp
      have p0 := cell_at hb0 (i := 0) rfl
      have p1 := cell_at hb0 (i := 1) rfl
      have p5 := cell_at hb0 (i := 5) rfl
      obtain ⟨b, o, rfl, hb, c0, _, _, _⟩ := tok_at hs0 hqi
      change wr.cell? ⟨b, o + q.i * 4, none⟩ = some (.int .i64 (tkF toks q).kind) at c0
      obtain ⟨tk, htk⟩ : ∃ tk, (tkF toks q).kind = tk := ⟨_, rfl⟩
      rw [htk] at c0
      clear hg hst hX hb0 hs0
      by_cases he : q.e = 0
      · have hd1 : (q.e == 0) = true := by simp [he]
        have hd2 : (q.e != 0) = false := by simp [he]
        have HE := Lib.hid he
        by_cases h4 : tk = 4
        · have hd4 : (tk != 4) = false := by simp [h4]
          have HZ := Lib.hid (HR.out.trans (par_end hqi HI.out he (htk.trans h4)))
          clear he h4 htk
          go_upto_region 5 with fail
          refine wp_region_still_tail 18 (by kernel_rfl) (by kernel_rfl) ?_
          change wpStill _ _ (World.drew wr) (fun a' => wpList _ _ _ _ a' (World.drew wr)) _ _
          have hdr := Below.drew (Below.refl wr.heap.size wr)
          have p0 := cell_kept hdr p0
          have p1 := cell_kept hdr p1
          have p5 := cell_kept hdr p5
          have hr6 := cell_kept hdr hr6
          try have c0 := cell_kept hdr c0
          have HPd := Lib.hid (HP.out.below hdr)
          have HXd := Lib.hid (block_kept hdr HXr.out)
          have HBd := Lib.hid (below_next HBr.out hdr)
          have HCd : Hid (Below g W3 (World.drew wr)) := Lib.hid HC.out.drew
          have HST := Lib.hid ((HST.out.chg (chg_of_below hdr (fun _ => False)) (fun _ h => h.elim)).later hdr.size)
          have HAd := Lib.hid (show RAll g (World.drew wr) toks q x from ⟨_, _, _, _, HPd.out, HST.out⟩)
          clear hdr HP HXr HBr HC HA
          generalize World.drew wr = W5 at *
          simp only [List.take_succ_cons, List.take_zero, List.drop_succ_cons, List.drop_zero]
          repeat (first | (refine still_plain rfl (fun K hK => ?_); go_simp; refine hK _ ?_; clear hK K) | (refine still_off _ _ _ _ _ rfl rfl rfl rfl rfl (fun K hK => ?_); go_simp; refine hK _ ?_; clear hK K) | (refine still_on _ _ _ _ rfl rfl rfl rfl (fun K hK => ?_); go_simp; refine hK _ ?_; clear hK K) | (refine still_dead _ _ _ _ rfl rfl rfl rfl (fun K hK => ?_); go_simp; refine hK _ ?_; clear hK K))
          refine wpStill_nil ?_
          have p2 := HPd.out.cellD
          have p3 := HPd.out.cellH
          have p4 := HPd.out.cellS
          have f := fun i => Lib.frozen_of_heap HXd.out i
          have x0 := cell_at HXd.out (i := 0) rfl
          have x1 := cell_at HXd.out (i := 1) rfl
          have x2 := cell_at HXd.out (i := 2) rfl
          go_wp2_with fail
          obtain ⟨h1, h2⟩ := three_sets HXd.out (.slice DA x.doms.length Dc) (.slice AH x.hard.length CH) (.slice AS x.soft.length CS)
          refine bodyPost_ret (results_cell_two rfl _ _ _ w.heap.size #[.slice DA x.doms.length Dc, .slice AH x.hard.length CH, .slice AS x.soft.length CS] rfl (run_loadVar_row _ _ 26 26 _ (0, 0) _ h1 Tryz.underlying26 rfl (by kernel_rfl))) rfl ?_
          rw [HZ.out]
          refine ⟨⟨_, _, _, rfl, ?_, hdims⟩, HBd.out.trans (h2.below (B := w.heap.size) (fun k hk e => by omega) HBd.out.size)⟩
          exact (PSt.inst (B := w.heap.size + 1) (HST.out.chg h2 (fun k hk => by omega) |>.later (by simp)) (by omega) (by omega) (by omega) (by omega)).mono fun k hk => by omega
        · have hd4 : (tk != 4) = true := by simp [h4]
          have HN4 : Hid ((tkF toks q).kind ≠ 4) := Lib.hid (fun h => h4 (htk.symm.trans h))
          clear he h4 htk
          go_upto_region 5 with fail
          refine wp_region_still_tail 18 (by kernel_rfl) (by kernel_rfl) ?_
          change wpStill _ _ (World.drew wr) (fun a' => wpList _ _ _ _ a' (World.drew wr)) _ _
          have hdr := Below.drew (Below.refl wr.heap.size wr)
          have p0 := cell_kept hdr p0
          have p1 := cell_kept hdr p1
          have p5 := cell_kept hdr p5
          have hr6 := cell_kept hdr hr6
          try have c0 := cell_kept hdr c0
          have HPd := Lib.hid (HP.out.below hdr)
          have HXd := Lib.hid (block_kept hdr HXr.out)
          have HBd := Lib.hid (below_next HBr.out hdr)
          have HCd : Hid (Below g W3 (World.drew wr)) := Lib.hid HC.out.drew
          have HST := Lib.hid ((HST.out.chg (chg_of_below hdr (fun _ => False)) (fun _ h => h.elim)).later hdr.size)
          have HAd := Lib.hid (show RAll g (World.drew wr) toks q x from ⟨_, _, _, _, HPd.out, HST.out⟩)
          clear hdr HP HXr HBr HC HA
          generalize World.drew wr = W5 at *
          simp only [List.take_succ_cons, List.take_zero, List.drop_succ_cons, List.drop_zero]
          repeat (first | (refine still_plain rfl (fun K hK => ?_); go_simp; refine hK _ ?_; clear hK K) | (refine still_off _ _ _ _ _ rfl rfl rfl rfl rfl (fun K hK => ?_); go_simp; refine hK _ ?_; clear hK K) | (refine still_on _ _ _ _ rfl rfl rfl rfl (fun K hK => ?_); go_simp; refine hK _ ?_; clear hK K) | (refine still_dead _ _ _ _ rfl rfl rfl rfl (fun K hK => ?_); go_simp; refine hK _ ?_; clear hK K))
          refine wpStill_nil ?_
          have p2 := HPd.out.cellD
          have p3 := HPd.out.cellH
          have p4 := HPd.out.cellS
          have f := fun i => Lib.frozen_of_heap HXd.out i
          have x0 := cell_at HXd.out (i := 0) rfl
          have x1 := cell_at HXd.out (i := 1) rfl
          have x2 := cell_at HXd.out (i := 2) rfl
          go_wp2_with (go_at_call 48; refine (statement_r g _ toks q x HT.out HAd.out hdims HE.out HN4.out).mono ?_; rintro e w5 ⟨s', x', rfl, ha, hb, hd, hag⟩; (have HA5 := Lib.hid ha); (have HC5 := Lib.hid (HCd.out.trans hb)); (have HZ := Lib.hid (par_step hqi HI.out HE.out HN4.out hd hag)); clear ha hb hag)
          go_roundg (parM toks s')
          case rel => exact ⟨x', s', HA5, Lib.hid HZ.out.1, HC5, rfl⟩
          case measure => have := HG.out; have := HZ.out.2; omega
      · have hd1 : (q.e == 0) = false := by simp [he]
        have hd2 : (q.e != 0) = true := by simp [he]
        have HZ := Lib.hid (HR.out.trans (HI.out.bad he))
        clear he c0 htk
        go_upto_region 5 with fail
        refine wp_region_still_tail 18 (by kernel_rfl) (by kernel_rfl) ?_
        change wpStill _ _ (World.drew wr) (fun a' => wpList _ _ _ _ a' (World.drew wr)) _ _
        have hdr := Below.drew (Below.refl wr.heap.size wr)
        have p0 := cell_kept hdr p0
        have p1 := cell_kept hdr p1
        have p5 := cell_kept hdr p5
        have hr6 := cell_kept hdr hr6
        try have c0 := cell_kept hdr c0
        have HPd := Lib.hid (HP.out.below hdr)
        have HXd := Lib.hid (block_kept hdr HXr.out)
        have HBd := Lib.hid (below_next HBr.out hdr)
        have HCd : Hid (Below g W3 (World.drew wr)) := Lib.hid HC.out.drew
        have HST := Lib.hid ((HST.out.chg (chg_of_below hdr (fun _ => False)) (fun _ h => h.elim)).later hdr.size)
        have HAd := Lib.hid (show RAll g (World.drew wr) toks q x from ⟨_, _, _, _, HPd.out, HST.out⟩)
        clear hdr HP HXr HBr HC HA
        generalize World.drew wr = W5 at *
        simp only [List.take_succ_cons, List.take_zero, List.drop_succ_cons, List.drop_zero]
        repeat (first | (refine still_plain rfl (fun K hK => ?_); go_simp; refine hK _ ?_; clear hK K) | (refine still_off _ _ _ _ _ rfl rfl rfl rfl rfl (fun K hK => ?_); go_simp; refine hK _ ?_; clear hK K) | (refine still_on _ _ _ _ rfl rfl rfl rfl (fun K hK => ?_); go_simp; refine hK _ ?_; clear hK K) | (refine still_dead _ _ _ _ rfl rfl rfl rfl (fun K hK => ?_); go_simp; refine hK _ ?_; clear hK K))
        refine wpStill_nil ?_
        have p2 := HPd.out.cellD
        have p3 := HPd.out.cellH
        have p4 := HPd.out.cellS
        have f := fun i => Lib.frozen_of_heap HXd.out i
        have x0 := cell_at HXd.out (i := 0) rfl
        have x1 := cell_at HXd.out (i := 1) rfl
        have x2 := cell_at HXd.out (i := 2) rfl
        go_upto_region 8 with fail
        have hdr := Below.drew (Below.refl W5.heap.size W5)
        have p5 := cell_kept hdr p5
        have hr6 := cell_kept hdr hr6
        have HXe := Lib.hid (block_kept hdr HXd.out)
        have HBe := Lib.hid (below_next HBd.out hdr)
        clear hdr HXd HBd HAd HCd HPd p0 p1 p2 p3 p4 f x0 x1 x2
        refine wp_region_lex (fun w' => w'.cell? ⟨g, 5, none⟩ = some (.int .i64 q.a) ∧ w'.cell? ⟨g, 6, none⟩ = some (.int .i64 q.e)) [true, true, true, true, true, true, true, true, true, false, false, false] (by kernel_rfl) (by kernel_rfl) (fun c a d v w h => by cases d <;> exact h) ?_
        change wpLex _ _ _ _ _ _ _ _ _ (World.drew W5)
        generalize World.drew W5 = W6 at *
        repeat (first | (refine lex_take ⟨p5, hr6⟩ rfl (fun w' hw' => by (obtain ⟨q5, q6⟩ := hw'; (try go_simp); try rfl)) (fun K hK => ?_); go_simp; refine hK _ _ ?_; clear hK K) | (refine lex_take_on _ _ _ _ ⟨p5, hr6⟩ rfl rfl rfl rfl (fun w' hw' => by (obtain ⟨q5, q6⟩ := hw'; (try go_simp); try rfl)) (fun K hK => ?_); go_simp; refine hK _ _ ?_; clear hK K) | (refine lex_take_off _ _ _ _ _ ⟨p5, hr6⟩ rfl rfl rfl rfl rfl (fun K hK => ?_); go_simp; refine hK _ _ ?_; clear hK K))
        have f := fun i => Lib.frozen_of_heap HXe.out i
        have x0 := cell_at HXe.out (i := 0) rfl
        have x1 := cell_at HXe.out (i := 1) rfl
        have x2 := cell_at HXe.out (i := 2) rfl
        obtain ⟨h1, h2⟩ := three_sets HXe.out (.slice none 0 0) (.slice none 0 0) (.slice none 0 0)
        have p5 := h2.cell (p := ⟨g, 5, none⟩) (fun e : g = w.heap.size => by omega) p5
        have hr6 := h2.cell (p := ⟨g, 6, none⟩) (fun e : g = w.heap.size => by omega) hr6
        refine lex_step rfl (fun K hK => ?_)
        go_wp2_with fail
        refine hK _ _ ⟨p5, hr6⟩ ?_
        clear hK K
        iterate 2 (refine lex_step rfl (fun K hK => ?_); go_wp2_with fail; refine hK _ _ ⟨p5, hr6⟩ ?_; clear hK K)
        refine lex_nil ?_
        go_wp2_with fail
        refine bodyPost_ret (results_cell_two rfl _ _ _ w.heap.size #[.slice none 0 0, .slice none 0 0, .slice none 0 0] rfl (run_loadVar_row _ _ 26 26 _ (0, 0) _ h1 Tryz.underlying26 rfl (by kernel_rfl))) rfl ?_
        rw [HZ.out]
        exact ⟨rfl, HBe.out.trans (h2.below (B := w.heap.size) (fun k hk e => by omega) HBe.out.size)⟩
end Go.Proofs.YtoahaigfjfeopaaGreatDoor

/- arboristlaw06.InstReads. -/
namespace Go.Proofs.YtoahaigfjfeopaaGreatDoor
open Go.RowKit
attribute [local irreducible] wpStill wpLex Calls

theorem ba_take (s : ByteArray) (k : Nat) : s.extract 0 k = ⟨(s.data.toList.take k).toArray⟩ := by
  rw [Lib.extract_eq]
  simp
theorem ba_cut (s : ByteArray) (m : Nat) : s.extract 0 (min (s.size : Int) (m : Int)).toNat = ⟨(s.data.toList.take m).toArray⟩ := by
  rw [ba_take]
  congr 2
  have h : s.data.toList.length = s.size := by rw [Array.length_toList]; rfl
  rcases Nat.le_total s.size m with h1 | h1
  · rw [List.take_of_length_le (by omega), List.take_of_length_le (by omega)]
  · congr 1; omega
set_option maxRecDepth 100000 in
set_option maxHeartbeats 4000000 in
theorem reads_law (s : ByteArray) (w : World) (hE : Env w) :
    Calls Tryz.prog 6 #[.string s] w fun e w' => e = .returned (.bool true) ∧ Below w.heap.size w w' := by
  have HS := Lib.hid (shown_any w hE)
  have HE := Lib.hid hE
  have hm : (min (s.size : Int) 3000).toNat ≤ s.size := by omega
  have hm0 : 0 ≤ min (s.size : Int) 3000 := by omega
  clear hE
  go_enter Tryz.func6, Tryz.ntmps6
  go_wp2_with (go_at_call 11; refine HS.out.mono ?_; rintro e w1 ⟨rfl, hb⟩; (have HB1 := Lib.hid hb); (have HE2 := Lib.hid (HE.out.below hb HE.out.size)); clear hb HS)
  have hcut := ba_cut s 3000
  generalize s.extract 0 (min (s.size : Int) 3000).toNat = t at *
  obtain ⟨l, hl, ht⟩ : ∃ l : List UInt8, l.length ≤ 3000 ∧ t = ⟨l.toArray⟩ := ⟨_, by rw [List.length_take]; omega, hcut⟩
  clear hcut hm hm0
  have hts : t.size = l.length := by rw [ht]; exact size_mk _
  have HT := Lib.hid ht
  clear ht
  rcases hq : parseP l with ⟨p, x⟩ | y
  · obtain ⟨hx, hp0, hp1⟩ := parse_wrong hq
    have hr := reads_err l p x w1 HE2.out (by omega) hq
    rw [← HT.out] at hr
    have HR := Lib.hid hr
    have hb0 : (x != 0) = true := by simpa using hx
    have hp2 : p ≤ (t.size : Int) := by omega
    clear hr hq hx hp1 hts hl
    go_wp2_with (first
      | (go_at_call 18; refine HR.out.mono ?_; rintro e w2 ⟨rfl, hb⟩; (have HB2 := Lib.hid ((below_next HB1.out hb).alloc (below_next HB1.out hb).size (.cells #[.slice none 0 0, .slice none 0 0, .slice none 0 0] 26))); clear hb HR HB1)
      | (go_at_call 17; refine (same_any _ _ _ _ _ _ _ _ Any _ (InsAt.nil _ Any) (InsAt.nil _ Any)).mono ?_; rintro e w3 ⟨rfl, hb⟩; (have HB3 := Lib.hid (below_next HB2.out hb)); clear hb HB2))
    go_ret
    exact ⟨rfl, HB3.out⟩
  · obtain ⟨hr1, hlen, hback⟩ := parse_back (by omega) hq
    have hr := reads_ok l y w1 HE2.out (by omega) hq
    rw [← HT.out] at hr
    have HR := Lib.hid hr
    have HRI := Lib.hid hr1
    have HBK := Lib.hid hback
    clear hr hq hts hl hr1 hback HE2
    go_wp2_with (go_at_call 18; refine HR.out.mono ?_; rintro e w2 ⟨⟨DA, Dc, HA, Hc, SA, Sc, rfl, hi, _⟩, hb⟩; (have HI := Lib.hid hi); (have HB2 := Lib.hid (below_next HB1.out hb)); clear hi hb HR)
    have hbe := Below.refl w2.heap.size w2 |>.alloc (Nat.le_refl _) (.cells #[.slice DA y.doms.length Dc, .slice HA y.hard.length Hc, .slice SA y.soft.length Sc] 26)
    have HX := Lib.hid (heap_alloc_new w2 (.cells #[.slice DA y.doms.length Dc, .slice HA y.hard.length Hc, .slice SA y.soft.length Sc] 26))
    have HI2 := Lib.hid (HI.out.below hbe)
    have HB3 := Lib.hid (below_next HB2.out hbe)
    clear HI HB2 hbe
    generalize w2.alloc (.cells #[.slice DA y.doms.length Dc, .slice HA y.hard.length Hc, .slice SA y.soft.length Sc] 26) = W at *
    refine (print_any _ _ _ _ _ W (HE.out.below HB3.out HE.out.size) HI2.out.1 HI2.out.2.1 HI2.out.2.2 (by omega)).mono ?_
    rintro e w3 ⟨rfl, hb⟩
    have HI3 := Lib.hid (HI2.out.below hb)
    have HB4 := Lib.hid (below_next HB3.out hb)
    have HX3 := Lib.hid (block_kept hb HX.out)
    have HR := Lib.hid (reads_ok (printP y) y w3 (HE.out.below (below_next HB3.out hb) HE.out.size) (by omega) HBK.out)
    clear hb HB3 HI2 HX
    go_wp2_with (first
      | (go_at_call 18; refine HR.out.mono ?_; rintro e w4 ⟨⟨DA2, Dc2, HA2, Hc2, SA2, Sc2, rfl, hj, _⟩, hb⟩; (have hbe := below_alloc1 w4 (.cells #[.slice DA2 y.doms.length Dc2, .slice HA2 y.hard.length Hc2, .slice SA2 y.soft.length Sc2] 26)); (have HX5 := Lib.hid (block_kept hbe (block_kept hb HX3.out))); (have HY5 := Lib.hid (heap_alloc_new w4 (.cells #[.slice DA2 y.doms.length Dc2, .slice HA2 y.hard.length Hc2, .slice SA2 y.soft.length Sc2] 26))); (have HI5 := Lib.hid ((HI3.out.below hb).below hbe)); (have HJ5 := Lib.hid (hj.below hbe)); (have HB5 := Lib.hid (below_next (below_next HB4.out hb) hbe)); (have hrc := right_any _ _ _ _ _ _ HI5.out.1 HI5.out.2.1 HI5.out.2.2); rw [HRI.out] at hrc; (have HRC := Lib.hid hrc); (have x0 := cell_at HX5.out (i := 0) rfl); (have x1 := cell_at HX5.out (i := 1) rfl); (have x2 := cell_at HX5.out (i := 2) rfl); clear hj hb hbe hrc HR HI3 HX3 HB4)
      | (go_at_call 14; refine HRC.out.mono ?_; rintro e w5 ⟨rfl, hb⟩; (have HX6 := Lib.hid (block_kept hb HX5.out)); (have HY6 := Lib.hid (block_kept hb HY5.out)); (have HI6 := Lib.hid (HI5.out.below hb)); (have HJ6 := Lib.hid (HJ5.out.below hb)); (have HB6 := Lib.hid (below_next HB5.out hb)); (have x0 := cell_at HX6.out (i := 0) rfl); (have x1 := cell_at HX6.out (i := 1) rfl); (have x2 := cell_at HX6.out (i := 2) rfl); (have y0 := cell_at HY6.out (i := 0) rfl); (have y1 := cell_at HY6.out (i := 1) rfl); (have y2 := cell_at HY6.out (i := 2) rfl); clear hb HX5 HY5 HI5 HJ5 HB5 HRC)
      | (go_at_call 17; refine (same_any _ _ _ _ _ _ _ _ Any _ HI6.out HJ6.out).mono ?_; rintro e w6 ⟨rfl, hb⟩; (have HB7 := Lib.hid (below_next HB6.out hb)); clear hb HB6))
    go_ret
    exact ⟨ret_bool (by simp), HB7.out⟩
end Go.Proofs.YtoahaigfjfeopaaGreatDoor

/- arboristlaw06.InstParses. -/
namespace Go.Proofs.YtoahaigfjfeopaaGreatDoor
open Go.RowKit
attribute [local irreducible] wpStill wpLex Calls

theorem refreads_ok (l : List UInt8) (y : Ins) (w : World) (hl : l.length ≤ 140737488355328) (hq : parseP l = .ok y) :
    Calls Tryz.prog 19 #[.string ⟨l.toArray⟩] w fun e w' => (∃ DA Dc HA Hc SA Sc, e = .returned (.tuple #[.agg #[.slice DA y.doms.length Dc, .slice HA y.hard.length Hc, .slice SA y.soft.length Sc], .int .i64 0, .int .i64 0]) ∧ InsAt w' Any (.slice DA y.doms.length Dc) (.slice HA y.hard.length Hc) (.slice SA y.soft.length Sc) y) ∧ Below w.heap.size w w' := by
  refine (refparse_any l w hl).mono ?_
  rintro e w' ⟨h, hb⟩
  rw [hq] at h
  obtain ⟨dv, hv, sv, rfl, hi, h1, h2, h3⟩ := h
  have hi' := hi.mono (ok' := Any) (fun _ _ => trivial)
  obtain ⟨⟨A1, c1, rfl, _⟩, ⟨A2, c2, rfl, _⟩, ⟨A3, c3, rfl, _⟩⟩ := hi
  exact ⟨⟨A1, c1, A2, c2, A3, c3, rfl, hi'⟩, hb⟩
theorem refreads_err (l : List UInt8) (p x : Int) (w : World) (hl : l.length ≤ 140737488355328) (hq : parseP l = .error (p, x)) :
    Calls Tryz.prog 19 #[.string ⟨l.toArray⟩] w fun e w' => e = .returned (.tuple #[.agg #[.slice none 0 0, .slice none 0 0, .slice none 0 0], .int .i64 p, .int .i64 x]) ∧ Below w.heap.size w w' := by
  refine (refparse_any l w hl).mono ?_
  rintro e w' ⟨h, hb⟩
  rw [hq] at h
  exact ⟨h, hb⟩
set_option maxRecDepth 100000 in
set_option maxHeartbeats 4000000 in
theorem parses_law (s : ByteArray) (w : World) (hE : Env w) :
    Calls Tryz.prog 4 #[.string s] w fun e w' => e = .returned (.bool true) ∧ Below w.heap.size w w' := by
  have HS := Lib.hid (shown_any w hE)
  have HE := Lib.hid hE
  have hm : (min (s.size : Int) 3000).toNat ≤ s.size := by omega
  have hm0 : 0 ≤ min (s.size : Int) 3000 := by omega
  clear hE
  go_enter Tryz.func4, Tryz.ntmps4
  go_wp2_with (go_at_call 11; refine HS.out.mono ?_; rintro e w1 ⟨rfl, hb⟩; (have HB1 := Lib.hid hb); (have HE2 := Lib.hid (HE.out.below hb HE.out.size)); clear hb HS)
  have hcut := ba_cut s 3000
  generalize s.extract 0 (min (s.size : Int) 3000).toNat = t at *
  obtain ⟨l, hl, ht⟩ : ∃ l : List UInt8, l.length ≤ 3000 ∧ t = ⟨l.toArray⟩ := ⟨_, by rw [List.length_take]; omega, hcut⟩
  clear hcut hm hm0
  have HT := Lib.hid ht
  clear ht
  rcases hq : parseP l with ⟨p, x⟩ | y
  · have hr := reads_err l p x w1 HE2.out (by omega) hq
    have hr2 := fun W => refreads_err l p x W (by omega) hq
    rw [← HT.out] at hr hr2
    have HR := Lib.hid hr
    have HR2 := Lib.hid hr2
    clear hr hr2 hq hl
    go_wp2_with (first
      | (go_at_call 18; refine HR.out.mono ?_; rintro e w2 ⟨rfl, hb⟩; (have hbe := below_alloc1 w2 insZ); (have HX := Lib.hid (heap_alloc_new w2 insZ)); (have HB2 := Lib.hid (below_next (below_next HB1.out hb) hbe)); clear hb hbe HR HB1)
      | (go_at_call 19; refine (HR2.out _).mono ?_; rintro e w3 ⟨rfl, hb⟩; (have hbe := below_alloc1 w3 insZ); (have HX3 := Lib.hid (block_kept hbe (block_kept hb HX.out))); (have HY3 := Lib.hid (heap_alloc_new w3 insZ)); (have x0 := cell_at HX3.out (i := 0) rfl); (have x1 := cell_at HX3.out (i := 1) rfl); (have x2 := cell_at HX3.out (i := 2) rfl); (have y0 := cell_at HY3.out (i := 0) rfl); (have y1 := cell_at HY3.out (i := 1) rfl); (have y2 := cell_at HY3.out (i := 2) rfl); (have HB3 := Lib.hid (below_next (below_next HB2.out hb) hbe)); clear hb hbe HR2 HB2)
      | (go_at_call 17; refine (same_any _ _ _ _ _ _ _ _ Any _ (InsAt.nil _ Any) (InsAt.nil _ Any)).mono ?_; rintro e w4 ⟨rfl, hb⟩; (have HB4 := Lib.hid (below_next HB3.out hb)); clear hb HB3))
    go_ret
    exact ⟨ret_bool (by simp), HB4.out⟩
  · have hr := reads_ok l y w1 HE2.out (by omega) hq
    have hr2 := fun W => refreads_ok l y W (by omega) hq
    rw [← HT.out] at hr hr2
    have HR := Lib.hid hr
    have HR2 := Lib.hid hr2
    clear hr hr2 hq hl
    go_wp2_with (first
      | (go_at_call 18; refine HR.out.mono ?_; rintro e w2 ⟨⟨DA, Dc, HA, Hc, SA, Sc, rfl, hi, _⟩, hb⟩; (have hbe := below_alloc1 w2 (.cells #[.slice DA y.doms.length Dc, .slice HA y.hard.length Hc, .slice SA y.soft.length Sc] 26)); (have HX := Lib.hid (heap_alloc_new w2 (.cells #[.slice DA y.doms.length Dc, .slice HA y.hard.length Hc, .slice SA y.soft.length Sc] 26))); (have HI := Lib.hid (hi.below hbe)); (have HB2 := Lib.hid (below_next (below_next HB1.out hb) hbe)); clear hi hb hbe HR HB1)
      | (go_at_call 19; refine (HR2.out _).mono ?_; rintro e w3 ⟨⟨DA2, Dc2, HA2, Hc2, SA2, Sc2, rfl, hj⟩, hb⟩; (have hbe := below_alloc1 w3 (.cells #[.slice DA2 y.doms.length Dc2, .slice HA2 y.hard.length Hc2, .slice SA2 y.soft.length Sc2] 26)); (have HX3 := Lib.hid (block_kept hbe (block_kept hb HX.out))); (have HY3 := Lib.hid (heap_alloc_new w3 (.cells #[.slice DA2 y.doms.length Dc2, .slice HA2 y.hard.length Hc2, .slice SA2 y.soft.length Sc2] 26))); (have HI3 := Lib.hid ((HI.out.below hb).below hbe)); (have HJ3 := Lib.hid (hj.below hbe)); (have x0 := cell_at HX3.out (i := 0) rfl); (have x1 := cell_at HX3.out (i := 1) rfl); (have x2 := cell_at HX3.out (i := 2) rfl); (have y0 := cell_at HY3.out (i := 0) rfl); (have y1 := cell_at HY3.out (i := 1) rfl); (have y2 := cell_at HY3.out (i := 2) rfl); (have HB3 := Lib.hid (below_next (below_next HB2.out hb) hbe)); clear hj hb hbe HR2 HB2)
      | (go_at_call 17; refine (same_any _ _ _ _ _ _ _ _ Any _ HI3.out HJ3.out).mono ?_; rintro e w4 ⟨rfl, hb⟩; (have HB4 := Lib.hid (below_next HB3.out hb)); clear hb HB3))
    go_ret
    exact ⟨ret_bool (by simp), HB4.out⟩
end Go.Proofs.YtoahaigfjfeopaaGreatDoor
