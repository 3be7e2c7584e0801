/- Texts joined: Py Bh Wba Rn. -/
import Derived.Test.YtoahaigfjfeopaaGreatDoorGk
import Derived.Test.YtoahaigfjfeopaaGreatDoorGn
import Derived.Test.YtoahaigfjfeopaaGreatDoorGo
import Derived.Test.YtoahaigfjfeopaaGreatDoorGp
/- Statements in another order: the same instance. -/
namespace Go.Proofs.YtoahaigfjfeopaaGreatDoor

theorem right_some {x : Ins} (h : rightB x = true) (hs : List Con) (ss : List Sft) (h1 : hs = [] ∨ hs = x.hard) (h2 : ss = [] ∨ ss = x.soft) : rightB ⟨x.doms, hs, ss⟩ = true := by
  obtain ⟨hd, a1, a2, a3, a4⟩ := right_parts h
  refine right_mk hd ?_ ?_ ?_ ?_
  · rcases h1 with rfl | rfl
    · simp
    · exact a1
  · rcases h2 with rfl | rfl
    · simp
    · exact a2
  · intro c hc
    rcases h1 with rfl | rfl
    · simp at hc
    · exact (hardB_doms (x := ⟨x.doms, x.hard, ss⟩) (y := x) rfl c).trans (a3 c hc)
  · intro c hc
    rcases h2 with rfl | rfl
    · simp at hc
    · exact (softB_doms (x := ⟨x.doms, hs, x.soft⟩) (y := x) rfl c).trans (a4 c hc)
theorem printP_right {x : Ins} (h : rightB x = true) : printP x = domsP x.doms ++ hardsP x.hard ++ softsP x.soft := by rw [printP, if_pos h]
theorem print_d {x : Ins} (h : rightB x = true) : printP ⟨x.doms, [], []⟩ = domsP x.doms := by
  rw [printP_right (right_some h [] [] (.inl rfl) (.inl rfl))]; simp [hardsP, softsP]
theorem print_dh {x : Ins} (h : rightB x = true) : printP ⟨x.doms, x.hard, []⟩ = domsP x.doms ++ hardsP x.hard := by
  rw [printP_right (right_some h x.hard [] (.inr rfl) (.inl rfl))]; simp [softsP]
theorem print_ds {x : Ins} (h : rightB x = true) : printP ⟨x.doms, [], x.soft⟩ = domsP x.doms ++ softsP x.soft := by
  rw [printP_right (right_some h [] x.soft (.inl rfl) (.inr rfl))]; simp [hardsP]
theorem parse_moved {x : Ins} (h : rightB x = true) (hl : (printP x).length ≤ 100000) : parseP (domsP x.doms ++ softsP x.soft ++ hardsP x.hard) = .ok x := by
  obtain ⟨hd, h1, h2, h3, h4⟩ := right_parts h
  have e : (x.doms.map St.dom ++ (x.soft.map St.soft ++ x.hard.map St.hard)).flatMap stP = domsP x.doms ++ softsP x.soft ++ hardsP x.hard := by
    rw [List.flatMap_append, List.flatMap_append, List.flatMap_map, List.flatMap_map, List.flatMap_map, List.append_assoc]
    rfl
  have hlen : ((x.doms.map St.dom ++ (x.soft.map St.soft ++ x.hard.map St.hard)).flatMap stP).length ≤ 100000 := by
    rw [e]
    rw [printP_right h] at hl
    simp only [List.length_append] at hl ⊢
    omega
  have ho : okAll ⟨[], [], []⟩ (x.doms.map St.dom ++ (x.soft.map St.soft ++ x.hard.map St.hard)) := by
    rw [okAll_append, okAll_append, add_doms, add_softs]
    refine ⟨ok_doms _ _ (by simpa using hd.1) hd.2, ok_softs _ _ (by simpa using h2) (fun c hc => ?_), ok_hards _ _ (by simpa using h1) (fun c hc => ?_)⟩
    · rw [softB_doms (y := x) (by simp)]; exact h4 c hc
    · rw [hardB_doms (y := x) (by simp)]; exact h3 c hc
  have := parse_sts ho hlen
  rw [e] at this
  rw [this, List.foldl_append, List.foldl_append, add_doms, add_softs, add_hards]
  simp
end Go.Proofs.YtoahaigfjfeopaaGreatDoor

/- Regions that draw their order, walked by a plan that may part. Plain lemmas over the model; no program. -/
namespace Go.Proofs.YtoahaigfjfeopaaGreatDoor
open Go.RowKit

inductive Plan where
  | done
  | take (k : Nat) (r : Plan)
  | one (k : Nat) (r : Plan)
  | two (i j : Nat) (ri rj : Plan)
section
variable {P : Program} {ops : Array Oper} {Q : Exit → Act → World → Prop} {S : World → Prop}

/-- The plan serves: what is taken first may be; what stands alone does; where two are ready, these two are. -/
def planB (ops : Array Oper) (ms : List Bool) : Plan → Nat → Array Bool → Bool
  | .done, n, listed => decide (n = 0) && (Region.ready .any ops listed).isEmpty
  | .take k r, n + 1, listed => ms.getD k false && ((Region.ready .any ops listed).contains k && Region.free .any ops listed k) && planB ops ms r n (listed.setIfInBounds k true)
  | .one k r, n + 1, listed => decide (k < ops.size) && decide (Region.ready .any ops listed = [k]) && planB ops ms r n (listed.setIfInBounds k true)
  | .two i j ri rj, n + 1, listed => decide (i < ops.size) && decide (j < ops.size) && decide (Region.ready .any ops listed = [i, j]) && planB ops ms ri n (listed.setIfInBounds i true) && planB ops ms rj n (listed.setIfInBounds j true)
  | _, 0, _ => false
/-- One operation, and what follows. -/
def stepP (P : Program) (ops : Array Oper) (Q : Exit → Act → World → Prop) (S : World → Prop) (ms : List Bool) (k : Nat) (o : Oper) (K : Act → World → Prop) (a : Act) (w : World) : Prop :=
  if Region.wanted o (yielded ops a.tmps) then o.wp P a w (fun a' w' => (mustB ops ms k = true → S w') ∧ K a' w') Q ∨ (o.asks P a w ∧ LetsOut Q)
  else (mustB ops ms k = true → S w) ∧ K (a.put o.dst undef) w
def wpPlan (P : Program) (ops : Array Oper) (Q : Exit → Act → World → Prop) (S : World → Prop) (ms : List Bool) : Plan → Act → World → Prop
  | .done, a, w => Q .normal a w
  | .take k r, a, w => ∃ o, ops[k]? = some o ∧ S w ∧ ∃ v, YieldsIf P ops S o v a ∧ wpPlan P ops Q S ms r (a.put o.dst v) w
  | .one k r, a, w => ∃ o, ops[k]? = some o ∧ stepP P ops Q S ms k o (wpPlan P ops Q S ms r) a w
  | .two i j ri rj, a, w => (∃ o, ops[i]? = some o ∧ stepP P ops Q S ms i o (wpPlan P ops Q S ms ri) a w) ∧ (∃ o, ops[j]? = some o ∧ stepP P ops Q S ms j o (wpPlan P ops Q S ms rj) a w)
theorem stepP_op {ms : List Bool} {k : Nat} {o : Oper} {K K' : Act → World → Prop} {a : Act} {w : World} (h0 : ops[k]? = some o) (hK : ∀ a w, K a w → K' a w) (h : stepP P ops Q S ms k o K a w) :
    wpOp P ops Q k (fun a' w' => (mustB ops ms k = true → S w') ∧ K' a' w') a w := by
  unfold wpOp
  simp only [h0]
  unfold stepP at h
  split
  · rename_i hw
    rw [if_pos hw] at h
    exact h.imp (Oper.wp_mono (fun a' w' h' => ⟨h'.1, hK _ _ h'.2⟩)) id
  · rename_i hw
    rw [if_neg hw] at h
    exact ⟨h.1, hK _ _ h.2⟩
theorem wpM_plan {ms : List Bool} (hsel : Region.noSelect ops = true) (hQ : ∀ c (a : Act) d v w, Q (.panic c) (a.put d v) w → Q (.panic c) a w) :
    ∀ (p : Plan) (n : Nat) (listed : Array Bool) (a : Act) (w : World), planB ops ms p n listed = true → wpPlan P ops Q S ms p a w → wpM P ops Q S (mustB ops ms) n listed a w := by
  intro p
  induction p with
  | done =>
    intro n listed a w hB h
    simp only [planB, Bool.and_eq_true, decide_eq_true_eq] at hB
    obtain ⟨rfl, hB⟩ := hB
    exact ⟨by simpa using hB, h⟩
  | take k r ih =>
    intro n listed a w hB h
    cases n with
    | zero => simp [planB] at hB
    | succ n =>
      simp only [planB, Bool.and_eq_true] at hB
      obtain ⟨⟨hm, hr, hf⟩, hB'⟩ := hB
      obtain ⟨o, h0, hS, v, hy, h'⟩ := h
      refine wpM_first h0 (Region.noSelect_spec hsel) (fun c a w => hQ c a o.dst v w) (fun j => ?_) n listed a w (Region.free_spec h0 hf) (by simpa using hr) hy hS (ih n _ _ w hB' h')
      by_cases hmu : mustB ops ms j = true
      · exact .inl hmu
      · refine .inr ?_
        have hmu := Bool.eq_false_iff.2 hmu
        simp only [mustB, Bool.or_eq_false_iff, Bool.not_eq_false', List.all_eq_true, List.mem_range, Bool.or_eq_true, Bool.not_eq_true'] at hmu
        rcases hmu.2 k (Array.getElem?_eq_some_iff.1 h0).1 with h | h
        · rw [hm] at h; cases h
        · exact h
  | one k r ih =>
    intro n listed a w hB h
    cases n with
    | zero => simp [planB] at hB
    | succ n =>
      simp only [planB, Bool.and_eq_true, decide_eq_true_eq] at hB
      obtain ⟨⟨_, hb⟩, hB'⟩ := hB
      obtain ⟨o, h0, h'⟩ := h
      refine ⟨fun h1 => (by rw [hb] at h1; cases h1), fun i hi => ?_⟩
      rw [hb] at hi
      obtain rfl : i = k := by simpa using hi
      exact stepP_op h0 (fun a w h => ih n _ a w hB' h) h'
  | two i j ri rj ihi ihj =>
    intro n listed a w hB h
    cases n with
    | zero => simp [planB] at hB
    | succ n =>
      simp only [planB, Bool.and_eq_true, decide_eq_true_eq] at hB
      obtain ⟨⟨⟨⟨_, _⟩, hb⟩, hBi⟩, hBj⟩ := hB
      obtain ⟨⟨oi, hi0, hi'⟩, ⟨oj, hj0, hj'⟩⟩ := h
      refine ⟨fun h1 => (by rw [hb] at h1; cases h1), fun q hq => ?_⟩
      rw [hb] at hq
      rcases (by simpa using hq : q = i ∨ q = j) with rfl | rfl
      · exact stepP_op hi0 (fun a w h => ihi n _ a w hBi h) hi'
      · exact stepP_op hj0 (fun a w h => ihj n _ a w hBj h) hj'
theorem wp_region_plan {id : Nat} {a : Act} {w : World} {l : List Oper} (S : World → Prop) (ms : List Bool) (p : Plan) (hm : P.follows .mixedOrders = true)
    (hB : (Region.noSelect l.toArray && planB l.toArray ms p l.length (Array.replicate l.length false)) = true)
    (hQ : ∀ c (a : Act) d v w, Q (.panic c) (a.put d v) w → Q (.panic c) a w)
    (h : wpPlan P l.toArray Q S ms p a { w with drawn := w.drawn + 1 }) : (Code.region id l.toArray true).wp P Q a w := by
  simp only [Bool.and_eq_true] at hB
  refine wp_region_any hm (wpAny_of_M (S := S) (must := mustB l.toArray ms) _ _ _ _ ?_)
  have := wpM_plan (S := S) hB.1 hQ p l.length _ a { w with drawn := w.drawn + 1 } hB.2 h
  simpa using this
variable {ms : List Bool} {k : Nat} {o : Oper} {r : Plan} {a : Act} {w : World}
theorem plan_take {v : Value} (h0 : ops[k]? = some o) (hS : S w) (hg : o.guard = none) (hy : ∀ w', S w' → (execOp a.eval o).run P w' = .ok (.value v) w') (h : ∀ K : Act → World → Prop, (∀ a w, wpPlan P ops Q S ms r a w → K a w) → K (a.put o.dst v) w) : wpPlan P ops Q S ms (.take k r) a w :=
  ⟨o, h0, hS, v, .inl ⟨by simp [Region.wanted, hg], hy⟩, h _ fun _ _ h => h⟩
theorem plan_one (h0 : ops[k]? = some o) (hg : o.guard = none) (h : ∀ K : Act → World → Prop, (∀ a w, S w → wpPlan P ops Q S ms r a w → K a w) → o.wp P a w K Q) : wpPlan P ops Q S ms (.one k r) a w := by
  refine ⟨o, h0, ?_⟩
  unfold stepP
  rw [if_pos (by simp [Region.wanted, hg])]
  exact .inl (h _ fun a' w' hS h' => ⟨fun _ => hS, h'⟩)
theorem plan_two {i j : Nat} {ri rj : Plan} (h1 : wpPlan P ops Q S ms (.one i ri) a w) (h2 : wpPlan P ops Q S ms (.one j rj) a w) : wpPlan P ops Q S ms (.two i j ri rj) a w := ⟨h1, h2⟩
theorem plan_done (h : Q .normal a w) : wpPlan P ops Q S ms .done a w := h
/-! Guarded operations in a picked order -/
variable {rest : List (Nat × Bool × Oper)}
theorem lexO_take_on {v : Value} (i : Nat) (b : Bool) (oi : Oper) (d : Nat) (hS : S w) (hg : o.guard = some (i, b)) (hoi : ops[i]? = some oi) (hd : oi.dst = some d) (hv : a.tmps[d]? = some (.bool b))
    (hy : ∀ w', S w' → (execOp a.eval o).run P w' = .ok (.value v) w') (h : ∀ K : Act → World → Prop, (∀ a w, wpLexO P ops Q S ms rest a w → K a w) → K (a.put o.dst v) w) : wpLexO P ops Q S ms ((k, true, o) :: rest) a w :=
  ⟨hS, v, .inl ⟨by simp [Region.wanted, hg, yielded, hoi, hd, hv], hy⟩, h _ fun _ _ h => h⟩
theorem lexO_step_on (i : Nat) (b : Bool) (oi : Oper) (d : Nat) (hg : o.guard = some (i, b)) (hoi : ops[i]? = some oi) (hd : oi.dst = some d) (hv : a.tmps[d]? = some (.bool b))
    (h : ∀ K : Act → World → Prop, (∀ a w, S w → wpLexO P ops Q S ms rest a w → K a w) → o.wp P a w K Q) : wpLexO P ops Q S ms ((k, false, o) :: rest) a w := by
  unfold wpLexO
  rw [if_pos (by simp [Region.wanted, hg, yielded, hoi, hd, hv])]
  exact .inl (h _ fun a' w' hS h' => ⟨fun _ => hS, h'⟩)
end
end Go.Proofs.YtoahaigfjfeopaaGreatDoor

/- arboristlaw06.InstMoves. -/
namespace Go.Proofs.YtoahaigfjfeopaaGreatDoor
open Go.RowKit
attribute [local irreducible] wpStill wpLex wpLexO wpPlan Calls

/-- Parse, what is told lies in new blocks. -/
theorem reads_new (l : List UInt8) (y : Ins) (w : World) (hE : Env w) (hl : l.length ≤ 140737488355328) (hq : parseP l = .ok y) :
    Calls Tryz.prog 18 #[.string ⟨l.toArray⟩] w fun e w' => (∃ DA Dc HA Hc SA Sc, e = .returned (.tuple #[.agg #[.slice DA y.doms.length Dc, .slice HA y.hard.length Hc, .slice SA y.soft.length Sc], .int .i64 0, .int .i64 0]) ∧ InsAt w' (w.heap.size ≤ ·) (.slice DA y.doms.length Dc) (.slice HA y.hard.length Hc) (.slice SA y.soft.length Sc) y) ∧ Below w.heap.size w w' := by
  refine (parse_any l w hE.env0 hE.tabs hE.size hl).mono ?_
  rintro e w' ⟨h, hb⟩
  rw [hq] at h
  obtain ⟨dv, hv, sv, rfl, hi, _⟩ := h
  have hi' := hi
  obtain ⟨⟨A1, c1, rfl, _⟩, ⟨A2, c2, rfl, _⟩, ⟨A3, c3, rfl, _⟩⟩ := hi
  exact ⟨⟨A1, c1, A2, c2, A3, c3, rfl, hi'⟩, hb⟩
theorem ba_tail (D S : List UInt8) : (⟨(D ++ S).toArray⟩ : ByteArray).extract (⟨D.toArray⟩ : ByteArray).size (⟨(D ++ S).toArray⟩ : ByteArray).size = ⟨S.toArray⟩ := by
  rw [Lib.extract_eq]
  apply ByteArray.ext
  simp [ByteArray.size]
set_option maxRecDepth 100000 in
set_option maxHeartbeats 8000000 in
theorem moves_law (vD vH vS : Value) (x : Ins) (okv : Nat → Prop) (w : World) (hE : Env w) (hx : InsAt w okv vD vH vS x) :
    Calls Tryz.prog 8 #[.agg #[vD, vH, vS]] w fun e w' => e = .returned (.bool true) ∧ Below w.heap.size w w' := by
  have HS := Lib.hid (fun W (hb : Below w.heap.size w W) => shown_any W (hE.below hb hE.size))
  have HE := Lib.hid hE
  have HX := Lib.hid hx
  obtain ⟨⟨AD, cD, rfl, _⟩, ⟨AH, cH, rfl, _⟩, ⟨AS, cS, rfl, _⟩⟩ := hx
  clear hE
  have HB0 := Lib.hid (below_alloc1 w (.cells #[.slice AD x.doms.length cD, .slice AH x.hard.length cH, .slice AS x.soft.length cS] 26))
  have HC0 := Lib.hid (heap_alloc_new w (.cells #[.slice AD x.doms.length cD, .slice AH x.hard.length cH, .slice AS x.soft.length cS] 26))
  have HZ0 : Hid (w.heap.size + 1 ≤ (w.alloc (.cells #[.slice AD x.doms.length cD, .slice AH x.hard.length cH, .slice AS x.soft.length cS] 26)).heap.size) := Lib.hid (by simp)
  go_enter Tryz.func8, Tryz.ntmps8
  go_wp2_with (go_at_call 11; refine (HS.out _ HB0.out).mono ?_; rintro e w1 ⟨rfl, hb⟩; (have HB1 := Lib.hid (below_next HB0.out hb)); (have HC1 := Lib.hid (block_kept hb HC0.out)); (have HZ1 := Lib.hid (Nat.le_trans HZ0.out hb.size)); (have x0 := cell_at HC1.out (i := 0) rfl); (have x1 := cell_at HC1.out (i := 1) rfl); (have x2 := cell_at HC1.out (i := 2) rfl); clear hb HS HB0 HC0 HZ0)
  refine (cut_any _ _ _ x okv w1 (HX.out.below HB1.out)).mono ?_
  rintro e w2 ⟨⟨dv, hv, sv, rfl, hi⟩, hb⟩
  have HI := Lib.hid hi
  obtain ⟨⟨A1, k1, rfl, _⟩, ⟨A2, k2, rfl, _⟩, ⟨A3, k3, rfl, _⟩⟩ := hi
  have hc2 := block_kept hb HC1.out
  have HB2 := Lib.hid (below_next HB1.out hb)
  have y0 := cell_at hc2 (i := 0) rfl
  have y1 := cell_at hc2 (i := 1) rfl
  have y2 := cell_at hc2 (i := 2) rfl
  have f0 := Lib.frozen_of_heap hc2 0
  have f1 := Lib.frozen_of_heap hc2 1
  have f2 := Lib.frozen_of_heap hc2 2
  have HC2 := Lib.hid hc2
  clear hb hc2 HB1 HC1 x0 x1 x2
  go_upto_region 3 with fail
  obtain ⟨W, hW⟩ : ∃ W, W = ((w2.setCell ⟨w.heap.size, 0, none⟩ (.slice A1 (cutI x).doms.length k1)).setCell ⟨w.heap.size, 1, none⟩ (.slice A2 (cutI x).hard.length k2)).setCell ⟨w.heap.size, 2, none⟩ (.slice A3 (cutI x).soft.length k3) := ⟨_, rfl⟩
  obtain ⟨hcW, hbW, hiW⟩ := cut_stored HZ1.out hW ⟨_, _, _, HC2.out⟩ HB2.out HI.out
  rw [← hW]
  have HCW := Lib.hid hcW
  have HBW := Lib.hid hbW
  have HIW := Lib.hid hiW
  have x0 := cell_at hcW (i := 0) rfl
  have x1 := cell_at hcW (i := 1) rfl
  have x2 := cell_at hcW (i := 2) rfl
  clear hW hcW hbW hiW HI HC2 HB2 HZ1 y0 y1 y2 f0 f1 f2
  have hY := print_cut x
  generalize cutI x = y at *
  clear HX
  have HRT := Lib.hid (refright_any _ _ _ y Any W HIW.out.1 HIW.out.2.1 HIW.out.2.2)
  cases hr : rightB y
  · rw [hr] at HRT
    clear hr hY
    go_wp2_with (go_at_call 13; refine HRT.out.mono ?_; rintro e w3 ⟨rfl, hb⟩; (have HB3 := Lib.hid (below_next HBW.out hb)); clear hb HRT HBW HCW HIW)
    go_ret
    exact ⟨rfl, HB3.out⟩
  · rw [hr] at HRT
    have hlen := hY hr
    have HR := Lib.hid hr
    have p1 := print_d hr
    have p2 := print_dh hr
    have p3 := print_ds hr
    have p4 := printP_right hr
    have hl := hlen
    rw [p4] at hl
    simp only [List.length_append] at hl
    have q1 := Lib.hid (fun W3 (hb : Below W.heap.size W W3) => print_any (.slice A1 y.doms.length k1) (.slice none 0 0) (.slice none 0 0) ⟨y.doms, [], []⟩ Any W3 (HE.out.below (below_next HBW.out hb) HE.out.size) (HIW.out.below hb).1 (InsAt.nil W3 Any).2.1 (InsAt.nil W3 Any).2.2 (by rw [p1]; omega))
    have q2 := Lib.hid (fun W3 (hb : Below W.heap.size W W3) => print_any (.slice A1 y.doms.length k1) (.slice A2 y.hard.length k2) (.slice none 0 0) ⟨y.doms, y.hard, []⟩ Any W3 (HE.out.below (below_next HBW.out hb) HE.out.size) (HIW.out.below hb).1 (HIW.out.below hb).2.1 (InsAt.nil W3 Any).2.2 (by rw [p2, List.length_append]; omega))
    have q3 := Lib.hid (fun W3 (hb : Below W.heap.size W W3) => print_any (.slice A1 y.doms.length k1) (.slice none 0 0) (.slice A3 y.soft.length k3) ⟨y.doms, [], y.soft⟩ Any W3 (HE.out.below (below_next HBW.out hb) HE.out.size) (HIW.out.below hb).1 (InsAt.nil W3 Any).2.1 (HIW.out.below hb).2.2 (by rw [p3, List.length_append]; omega))
    rw [p1] at q1
    rw [p2] at q2
    rw [p3] at q3
    have HPR := Lib.hid p4
    have HPA := Lib.hid (parse_moved hr hlen)
    clear p1 p2 p3 p4 hr hY
    generalize domsP y.doms = D at *
    generalize hardsP y.hard = Hh at *
    generalize softsP y.soft = Ss at *
    have t1 := ba_tail D Hh
    have t2 := ba_tail D Ss
    have HTT : Hid ((⟨D.toArray⟩ : ByteArray) ++ ⟨Ss.toArray⟩ ++ ⟨Hh.toArray⟩ = ⟨(D ++ Ss ++ Hh).toArray⟩) := Lib.hid (by rw [ba_app, ba_app])
    have HTU : Hid ((⟨(D ++ Hh).toArray⟩ : ByteArray) ++ ⟨Ss.toArray⟩ = ⟨(printP y).toArray⟩) := Lib.hid (by rw [ba_app, HPR.out])
    have s1 : (⟨D.toArray⟩ : ByteArray).size ≤ 100000 := by rw [size_mk]; omega
    have s2 : (⟨(D ++ Hh).toArray⟩ : ByteArray).size ≤ 100000 := by rw [size_mk, List.length_append]; omega
    have s3 : (⟨(D ++ Ss).toArray⟩ : ByteArray).size ≤ 100000 := by rw [size_mk, List.length_append]; omega
    have s4 : (⟨D.toArray⟩ : ByteArray).size ≤ (⟨(D ++ Hh).toArray⟩ : ByteArray).size := by rw [size_mk, size_mk, List.length_append]; omega
    have s5 : (⟨D.toArray⟩ : ByteArray).size ≤ (⟨(D ++ Ss).toArray⟩ : ByteArray).size := by rw [size_mk, size_mk, List.length_append]; omega
    have s6 : (⟨Hh.toArray⟩ : ByteArray).size ≤ 100000 := by rw [size_mk]; omega
    have s7 : (⟨Ss.toArray⟩ : ByteArray).size ≤ 100000 := by rw [size_mk]; omega
    have hl3 : (D ++ Ss ++ Hh).length ≤ 140737488355328 := by simp only [List.length_append]; omega
    have hq := fun W3 (hb : Below W.heap.size W W3) => reads_new (D ++ Ss ++ Hh) y W3 (HE.out.below (below_next HBW.out hb) HE.out.size) hl3 HPA.out
    rw [← HTT.out] at hq
    have HQ := Lib.hid hq
    clear hl hq hl3 HPA HTT
    generalize (⟨D.toArray⟩ : ByteArray) = bD at *
    generalize (⟨Hh.toArray⟩ : ByteArray) = bH at *
    generalize (⟨Ss.toArray⟩ : ByteArray) = bS at *
    generalize (⟨(D ++ Hh).toArray⟩ : ByteArray) = bDH at *
    generalize (⟨(D ++ Ss).toArray⟩ : ByteArray) = bDS at *
    have hn1 : ¬ bDH.size < bD.size := by omega
    have hn2 : ¬ bDS.size < bD.size := by omega
    go_upto_region 11 with (first
      | (go_at_call 13; refine HRT.out.mono ?_; rintro e w3 ⟨rfl, hb⟩; (have HN3 := Lib.hid hb); (have x0 := cell_at (block_kept hb HCW.out) (i := 0) rfl); (have x1 := cell_at (block_kept hb HCW.out) (i := 1) rfl); (have x2 := cell_at (block_kept hb HCW.out) (i := 2) rfl); clear hb HRT)
      | (go_at_call 15; refine (q1.out _ HN3.out).mono ?_; rintro e w4 ⟨rfl, hb⟩; (have HN4 := Lib.hid (below_next HN3.out hb)); (have x0 := cell_at (block_kept HN4.out HCW.out) (i := 0) rfl); (have x1 := cell_at (block_kept HN4.out HCW.out) (i := 1) rfl); (have x2 := cell_at (block_kept HN4.out HCW.out) (i := 2) rfl); clear hb q1 HN3)
      | (go_at_call 15; refine (q2.out _ HN4.out).mono ?_; rintro e w5 ⟨rfl, hb⟩; (have HN5 := Lib.hid (below_next HN4.out hb)); (have x0 := cell_at (block_kept HN5.out HCW.out) (i := 0) rfl); (have x1 := cell_at (block_kept HN5.out HCW.out) (i := 1) rfl); (have x2 := cell_at (block_kept HN5.out HCW.out) (i := 2) rfl); clear hb q2 HN4)
      | (go_at_call 15; refine (q3.out _ HN5.out).mono ?_; rintro e w6 ⟨rfl, hb⟩; (have HN6 := Lib.hid (below_next HN5.out hb)); (have x0 := cell_at (block_kept HN6.out HCW.out) (i := 0) rfl); (have x1 := cell_at (block_kept HN6.out HCW.out) (i := 1) rfl); (have x2 := cell_at (block_kept HN6.out HCW.out) (i := 2) rfl); clear hb q3 HN5))
    refine wp_region_plan (fun _ => True) [true, true, true, true, true, true, true, true, true, true, true, false, true, true, true, true, false, false, false, false] (.take 0 (.take 1 (.take 2 (.take 3 (.take 4 (.take 5 (.take 6 (.take 7 (.take 8 (.take 9 (.take 10 (.two 11 16 (.take 12 (.take 13 (.take 14 (.take 15 (.one 16 (.one 17 (.one 18 (.one 19 .done)))))))) (.one 11 (.take 12 (.take 13 (.take 14 (.take 15 (.one 17 (.one 18 (.one 19 .done)))))))))))))))))))) (by kernel_rfl) (by kernel_rfl) (fun c a d v w h => by cases d <;> exact h) ?_
    change wpPlan _ _ _ _ _ _ _ (World.drew w6)
    have HND := Lib.hid (below_next HN6.out (Below.drew (Below.refl _ _)))
    clear x0 x1 x2 HN6
    generalize World.drew w6 = W6 at *
    repeat (refine plan_take rfl trivial rfl (fun w' _ => by ((try go_simp); try rfl)) (fun K hK => ?_); go_simp; refine hK _ _ ?_; clear hK K)
    have hs8 : bD.size + bS.size ≤ 9223372036854775807 := by omega
    refine plan_take (v := .string (bD ++ bS)) rfl trivial rfl (fun w' _ => by (go_simp; try omega)) (fun K hK => ?_)
    go_simp; refine hK _ _ ?_; clear hK K
    repeat (refine plan_take rfl trivial rfl (fun w' _ => by ((try go_simp); try rfl)) (fun K hK => ?_); go_simp; refine hK _ _ ?_; clear hK K)
    have hs9 : (bD ++ bS).size + bH.size ≤ 9223372036854775807 := by rw [ByteArray.size_append]; omega
    refine plan_take (v := .string (bD ++ bS ++ bH)) rfl trivial rfl (fun w' _ => by (go_simp; try omega)) (fun K hK => ?_)
    go_simp; refine hK _ _ ?_; clear hK K
    refine plan_two ?_ ?_
    · refine plan_one rfl rfl (fun K hK => ?_)
      go_wp2_with (go_at_call 18; refine (HQ.out _ HND.out).mono ?_; rintro e w7 ⟨⟨DA2, Dc2, HA2, Hc2, SA2, Sc2, rfl, hj⟩, hb⟩; (have HJ := Lib.hid hj); (have HN7 := Lib.hid (below_next HND.out hb)); clear hj hb HQ HND)
      refine hK _ _ trivial ?_
      clear hK K
      repeat (refine plan_take rfl trivial rfl (fun w' _ => by ((try go_simp); try rfl)) (fun K hK => ?_); go_simp; refine hK _ _ ?_; clear hK K)
      refine plan_one rfl rfl (fun K hK => ?_)
      go_wp2_with fail
      refine hK _ _ trivial ?_
      clear hK K
      refine plan_one rfl rfl (fun K hK => ?_)
      go_wp2_with fail
      refine hK _ _ trivial ?_
      clear hK K
      refine plan_one rfl rfl (fun K hK => ?_)
      go_wp2_with fail
      refine hK _ _ trivial ?_
      clear hK K
      refine plan_one rfl rfl (fun K hK => ?_)
      go_wp2_with fail
      refine hK _ _ trivial ?_
      clear hK K
      refine plan_done ?_
      have hbe := below_alloc1 w7 (.cells #[.slice DA2 y.doms.length Dc2, .slice HA2 y.hard.length Hc2, .slice SA2 y.soft.length Sc2] 26)
      have HN8 := Lib.hid (below_next HN7.out hbe)
      have HY8 := Lib.hid (heap_alloc_new w7 (.cells #[.slice DA2 y.doms.length Dc2, .slice HA2 y.hard.length Hc2, .slice SA2 y.soft.length Sc2] 26))
      have HJ8 := Lib.hid ((HJ.out.below hbe).mono (ok' := Any) (fun _ _ => trivial))
      clear hbe HN7 HJ
      generalize w7.alloc (.cells #[.slice DA2 y.doms.length Dc2, .slice HA2 y.hard.length Hc2, .slice SA2 y.soft.length Sc2] 26) = V8 at *
      go_upto_region 12 with fail
      refine wp_region_lexO (fun w' => w'.cell? ⟨w.heap.size, 0, none⟩ = some (.slice A1 y.doms.length k1) ∧ w'.cell? ⟨w.heap.size, 1, none⟩ = some (.slice A2 y.hard.length k2) ∧ w'.cell? ⟨w.heap.size, 2, none⟩ = some (.slice A3 y.soft.length k3) ∧ w'.cell? ⟨w7.heap.size, 0, none⟩ = some (.slice DA2 y.doms.length Dc2) ∧ w'.cell? ⟨w7.heap.size, 1, none⟩ = some (.slice HA2 y.hard.length Hc2) ∧ w'.cell? ⟨w7.heap.size, 2, none⟩ = some (.slice SA2 y.soft.length Sc2)) [(0, true), (1, true), (2, true), (3, true), (4, true), (5, true), (6, true), (7, true), (8, false), (9, true), (10, true), (11, true), (13, true), (14, true), (15, true), (16, true), (17, true), (18, true), (12, false), (19, true), (20, true), (21, false)] (by kernel_rfl) (by kernel_rfl) (fun c a d v w h => by cases d <;> exact h) ?_
      change wpLexO _ _ _ _ _ _ _ (World.drew V8)
      have HN9 := Lib.hid (below_next HN8.out (Below.drew (Below.refl _ _)))
      have HY9 := Lib.hid (block_kept (Below.drew (Below.refl V8.heap.size V8)) HY8.out)
      have HJ9 := Lib.hid (HJ8.out.below (Below.drew (Below.refl V8.heap.size V8)))
      clear HN8 HY8 HJ8
      generalize World.drew V8 = V at *
      have HI9 := Lib.hid (HIW.out.below HN9.out)
      have z0 := cell_at (block_kept HN9.out HCW.out) (i := 0) rfl
      have z1 := cell_at (block_kept HN9.out HCW.out) (i := 1) rfl
      have z2 := cell_at (block_kept HN9.out HCW.out) (i := 2) rfl
      have u0 := cell_at HY9.out (i := 0) rfl
      have u1 := cell_at HY9.out (i := 1) rfl
      have u2 := cell_at HY9.out (i := 2) rfl
      repeat (first | (refine lexO_take ⟨z0, z1, z2, u0, u1, u2⟩ rfl (fun w' hw' => by (obtain ⟨v0, v1, v2, v3, v4, v5⟩ := hw'; (try go_simp); try rfl)) (fun K hK => ?_); go_simp; refine hK _ _ ?_; clear hK K) | (refine lexO_take_on _ _ _ _ ⟨z0, z1, z2, u0, u1, u2⟩ rfl rfl rfl rfl (fun w' hw' => by (obtain ⟨v0, v1, v2, v3, v4, v5⟩ := hw'; (try go_simp); try rfl)) (fun K hK => ?_); go_simp; refine hK _ _ ?_; clear hK K))
      refine lexO_step_on _ _ _ _ rfl rfl rfl rfl (fun K hK => ?_)
      go_wp2_with (go_at_call 17; refine (same_any _ _ _ _ _ _ _ _ Any _ HI9.out HJ9.out).mono ?_; rintro e w10 ⟨rfl, hb10⟩)
      have HN10 := Lib.hid (below_next HN9.out hb10)
      have HI10 := Lib.hid (HI9.out.below hb10)
      have z0 := cell_kept hb10 z0
      have z1 := cell_kept hb10 z1
      have z2 := cell_kept hb10 z2
      have u0 := cell_kept hb10 u0
      have u1 := cell_kept hb10 u1
      have u2 := cell_kept hb10 u2
      refine hK _ _ ⟨z0, z1, z2, u0, u1, u2⟩ ?_
      clear hK K hb10 HN9 HJ9 HY9 HI9
      repeat (first | (refine lexO_take ⟨z0, z1, z2, u0, u1, u2⟩ rfl (fun w' hw' => by (obtain ⟨v0, v1, v2, v3, v4, v5⟩ := hw'; (try go_simp); try rfl)) (fun K hK => ?_); go_simp; refine hK _ _ ?_; clear hK K) | (refine lexO_take_on _ _ _ _ ⟨z0, z1, z2, u0, u1, u2⟩ rfl rfl rfl rfl (fun w' hw' => by (obtain ⟨v0, v1, v2, v3, v4, v5⟩ := hw'; (try go_simp); try rfl)) (fun K hK => ?_); go_simp; refine hK _ _ ?_; clear hK K))
      have hs10 : bDH.size + bS.size ≤ 9223372036854775807 := by omega
      refine lexO_take_on (v := .string (bDH ++ bS)) _ _ _ _ ⟨z0, z1, z2, u0, u1, u2⟩ rfl rfl rfl rfl (fun w' _ => by (go_simp; try omega)) (fun K hK => ?_)
      go_simp; refine hK _ _ ?_; clear hK K
      have hpp := print_any _ _ _ y Any w10 (HE.out.below (below_next HBW.out HN10.out) HE.out.size) HI10.out.1 HI10.out.2.1 HI10.out.2.2 (by omega)
      rw [← HTU.out] at hpp
      have HPP := Lib.hid hpp
      clear hpp
      refine lexO_step_on _ _ _ _ rfl rfl rfl rfl (fun K hK => ?_)
      go_wp2_with (go_at_call 15; refine HPP.out.mono ?_; rintro e w11 ⟨rfl, hb11⟩)
      have HN11 := Lib.hid (below_next HN10.out hb11)
      have z0 := cell_kept hb11 z0
      have z1 := cell_kept hb11 z1
      have z2 := cell_kept hb11 z2
      have u0 := cell_kept hb11 u0
      have u1 := cell_kept hb11 u1
      have u2 := cell_kept hb11 u2
      refine hK _ _ ⟨z0, z1, z2, u0, u1, u2⟩ ?_
      clear hK K hb11 HN10 HI10 HPP
      repeat (first | (refine lexO_take ⟨z0, z1, z2, u0, u1, u2⟩ rfl (fun w' hw' => by (obtain ⟨v0, v1, v2, v3, v4, v5⟩ := hw'; (try go_simp); try rfl)) (fun K hK => ?_); go_simp; refine hK _ _ ?_; clear hK K) | (refine lexO_take_on _ _ _ _ ⟨z0, z1, z2, u0, u1, u2⟩ rfl rfl rfl rfl (fun w' hw' => by (obtain ⟨v0, v1, v2, v3, v4, v5⟩ := hw'; (try go_simp); try rfl)) (fun K hK => ?_); go_simp; refine hK _ _ ?_; clear hK K))
      refine lexO_step rfl (fun K hK => ?_)
      go_wp2_with fail
      refine hK _ _ ⟨z0, z1, z2, u0, u1, u2⟩ ?_
      clear hK K
      refine lexO_nil ?_
      go_wp2
      go_ret
      exact ⟨rfl, below_next HBW.out HN11.out⟩
    · refine plan_one rfl rfl (fun K hK => ?_)
      go_wp2_with fail
      refine hK _ _ trivial ?_
      clear hK K
      have hbe := below_alloc1 W6 (.cells #[.slice none 0 0, .slice none 0 0, .slice none 0 0] 26)
      have hz7 := heap_alloc_new W6 (.cells #[.slice none 0 0, .slice none 0 0, .slice none 0 0] 26)
      have hzs : (W6.alloc (.cells #[.slice none 0 0, .slice none 0 0, .slice none 0 0] 26)).heap.size = W6.heap.size + 1 := by simp
      have HZS := Lib.hid hzs
      clear hzs
      refine plan_one rfl rfl (fun K hK => ?_)
      go_wp2_with (go_at_call 18; refine (HQ.out _ (below_next HND.out hbe)).mono ?_; rintro e w7 ⟨⟨DA2, Dc2, HA2, Hc2, SA2, Sc2, rfl, hj⟩, hb⟩; (have HJ := Lib.hid hj); (have HZ7 := Lib.hid (block_kept hb hz7)); (have HN7 := Lib.hid (below_next (below_next HND.out hbe) hb)); (have HB7 := Lib.hid hb); clear hj hb HQ)
      have hsz7 : W6.heap.size < w7.heap.size := by have := HB7.out.size; have := HZS.out; omega
      refine hK _ _ trivial ?_
      clear hK K hbe hz7
      repeat (refine plan_take rfl trivial rfl (fun w' _ => by ((try go_simp); try rfl)) (fun K hK => ?_); go_simp; refine hK _ _ ?_; clear hK K)
      have y0 := cell_at HZ7.out (i := 0) rfl
      have y1 := cell_at HZ7.out (i := 1) rfl
      have y2 := cell_at HZ7.out (i := 2) rfl
      have f0 := Lib.frozen_of_heap HZ7.out 0
      have f1 := Lib.frozen_of_heap HZ7.out 1
      have f2 := Lib.frozen_of_heap HZ7.out 2
      refine plan_one rfl rfl (fun K hK => ?_)
      go_wp2_with fail
      refine hK _ _ trivial ?_
      clear hK K
      refine plan_one rfl rfl (fun K hK => ?_)
      go_wp2_with fail
      refine hK _ _ trivial ?_
      clear hK K
      refine plan_one rfl rfl (fun K hK => ?_)
      go_wp2_with fail
      refine hK _ _ trivial ?_
      clear hK K
      refine plan_done ?_
      have hch : Chg (fun k => k = W6.heap.size) w7 (((w7.setCell ⟨W6.heap.size, 0, none⟩ (.slice DA2 y.doms.length Dc2)).setCell ⟨W6.heap.size, 1, none⟩ (.slice HA2 y.hard.length Hc2)).setCell ⟨W6.heap.size, 2, none⟩ (.slice SA2 y.soft.length Sc2)) :=
        ((chg_setCell w7 _ 0 _).trans (chg_setCell _ _ 1 _) (fun _ _ h => h)).trans (chg_setCell _ _ 2 _) (fun _ _ h => h)
      have HY8 : Hid ((((w7.setCell ⟨W6.heap.size, 0, none⟩ (.slice DA2 y.doms.length Dc2)).setCell ⟨W6.heap.size, 1, none⟩ (.slice HA2 y.hard.length Hc2)).setCell ⟨W6.heap.size, 2, none⟩ (.slice SA2 y.soft.length Sc2)).heap[W6.heap.size]? = some (.cells #[.slice DA2 y.doms.length Dc2, .slice HA2 y.hard.length Hc2, .slice SA2 y.soft.length Sc2] 26)) := Lib.hid (by simp [World.setCell, Array.getElem?_modify, HZ7.out])
      have HJ8 := Lib.hid ((HJ.out.chg hch (fun k hk e => by have := HZS.out; have h2 : (W6.alloc (.cells #[.slice none 0 0, .slice none 0 0, .slice none 0 0] 26)).heap.size ≤ k := hk; omega)).mono (ok' := Any) (fun _ _ => trivial))
      have HN8 := Lib.hid (HN7.out.trans (hch.below (B := W.heap.size) (fun k hk e => by have := HND.out.size; omega) (by have := HND.out.size; omega)))
      clear hch HN7 HJ HZ7 y0 y1 y2 f0 f1 f2 HB7 HZS HND
      generalize ((w7.setCell ⟨W6.heap.size, 0, none⟩ (.slice DA2 y.doms.length Dc2)).setCell ⟨W6.heap.size, 1, none⟩ (.slice HA2 y.hard.length Hc2)).setCell ⟨W6.heap.size, 2, none⟩ (.slice SA2 y.soft.length Sc2) = V8 at *
      go_upto_region 12 with fail
      refine wp_region_lexO (fun w' => w'.cell? ⟨w.heap.size, 0, none⟩ = some (.slice A1 y.doms.length k1) ∧ w'.cell? ⟨w.heap.size, 1, none⟩ = some (.slice A2 y.hard.length k2) ∧ w'.cell? ⟨w.heap.size, 2, none⟩ = some (.slice A3 y.soft.length k3) ∧ w'.cell? ⟨W6.heap.size, 0, none⟩ = some (.slice DA2 y.doms.length Dc2) ∧ w'.cell? ⟨W6.heap.size, 1, none⟩ = some (.slice HA2 y.hard.length Hc2) ∧ w'.cell? ⟨W6.heap.size, 2, none⟩ = some (.slice SA2 y.soft.length Sc2)) [(0, true), (1, true), (2, true), (3, true), (4, true), (5, true), (6, true), (7, true), (8, false), (9, true), (10, true), (11, true), (13, true), (14, true), (15, true), (16, true), (17, true), (18, true), (12, false), (19, true), (20, true), (21, false)] (by kernel_rfl) (by kernel_rfl) (fun c a d v w h => by cases d <;> exact h) ?_
      change wpLexO _ _ _ _ _ _ _ (World.drew V8)
      have HN9 := Lib.hid (below_next HN8.out (Below.drew (Below.refl _ _)))
      have HY9 := Lib.hid (block_kept (Below.drew (Below.refl V8.heap.size V8)) HY8.out)
      have HJ9 := Lib.hid (HJ8.out.below (Below.drew (Below.refl V8.heap.size V8)))
      clear HN8 HY8 HJ8
      generalize World.drew V8 = V at *
      have HI9 := Lib.hid (HIW.out.below HN9.out)
      have z0 := cell_at (block_kept HN9.out HCW.out) (i := 0) rfl
      have z1 := cell_at (block_kept HN9.out HCW.out) (i := 1) rfl
      have z2 := cell_at (block_kept HN9.out HCW.out) (i := 2) rfl
      have u0 := cell_at HY9.out (i := 0) rfl
      have u1 := cell_at HY9.out (i := 1) rfl
      have u2 := cell_at HY9.out (i := 2) rfl
      repeat (first | (refine lexO_take ⟨z0, z1, z2, u0, u1, u2⟩ rfl (fun w' hw' => by (obtain ⟨v0, v1, v2, v3, v4, v5⟩ := hw'; (try go_simp); try rfl)) (fun K hK => ?_); go_simp; refine hK _ _ ?_; clear hK K) | (refine lexO_take_on _ _ _ _ ⟨z0, z1, z2, u0, u1, u2⟩ rfl rfl rfl rfl (fun w' hw' => by (obtain ⟨v0, v1, v2, v3, v4, v5⟩ := hw'; (try go_simp); try rfl)) (fun K hK => ?_); go_simp; refine hK _ _ ?_; clear hK K))
      refine lexO_step_on _ _ _ _ rfl rfl rfl rfl (fun K hK => ?_)
      go_wp2_with (go_at_call 17; refine (same_any _ _ _ _ _ _ _ _ Any _ HI9.out HJ9.out).mono ?_; rintro e w10 ⟨rfl, hb10⟩)
      have HN10 := Lib.hid (below_next HN9.out hb10)
      have HI10 := Lib.hid (HI9.out.below hb10)
      have z0 := cell_kept hb10 z0
      have z1 := cell_kept hb10 z1
      have z2 := cell_kept hb10 z2
      have u0 := cell_kept hb10 u0
      have u1 := cell_kept hb10 u1
      have u2 := cell_kept hb10 u2
      refine hK _ _ ⟨z0, z1, z2, u0, u1, u2⟩ ?_
      clear hK K hb10 HN9 HJ9 HY9 HI9
      repeat (first | (refine lexO_take ⟨z0, z1, z2, u0, u1, u2⟩ rfl (fun w' hw' => by (obtain ⟨v0, v1, v2, v3, v4, v5⟩ := hw'; (try go_simp); try rfl)) (fun K hK => ?_); go_simp; refine hK _ _ ?_; clear hK K) | (refine lexO_take_on _ _ _ _ ⟨z0, z1, z2, u0, u1, u2⟩ rfl rfl rfl rfl (fun w' hw' => by (obtain ⟨v0, v1, v2, v3, v4, v5⟩ := hw'; (try go_simp); try rfl)) (fun K hK => ?_); go_simp; refine hK _ _ ?_; clear hK K))
      have hs10 : bDH.size + bS.size ≤ 9223372036854775807 := by omega
      refine lexO_take_on (v := .string (bDH ++ bS)) _ _ _ _ ⟨z0, z1, z2, u0, u1, u2⟩ rfl rfl rfl rfl (fun w' _ => by (go_simp; try omega)) (fun K hK => ?_)
      go_simp; refine hK _ _ ?_; clear hK K
      have hpp := print_any _ _ _ y Any w10 (HE.out.below (below_next HBW.out HN10.out) HE.out.size) HI10.out.1 HI10.out.2.1 HI10.out.2.2 (by omega)
      rw [← HTU.out] at hpp
      have HPP := Lib.hid hpp
      clear hpp
      refine lexO_step_on _ _ _ _ rfl rfl rfl rfl (fun K hK => ?_)
      go_wp2_with (go_at_call 15; refine HPP.out.mono ?_; rintro e w11 ⟨rfl, hb11⟩)
      have HN11 := Lib.hid (below_next HN10.out hb11)
      have z0 := cell_kept hb11 z0
      have z1 := cell_kept hb11 z1
      have z2 := cell_kept hb11 z2
      have u0 := cell_kept hb11 u0
      have u1 := cell_kept hb11 u1
      have u2 := cell_kept hb11 u2
      refine hK _ _ ⟨z0, z1, z2, u0, u1, u2⟩ ?_
      clear hK K hb11 HN10 HI10 HPP
      repeat (first | (refine lexO_take ⟨z0, z1, z2, u0, u1, u2⟩ rfl (fun w' hw' => by (obtain ⟨v0, v1, v2, v3, v4, v5⟩ := hw'; (try go_simp); try rfl)) (fun K hK => ?_); go_simp; refine hK _ _ ?_; clear hK K) | (refine lexO_take_on _ _ _ _ ⟨z0, z1, z2, u0, u1, u2⟩ rfl rfl rfl rfl (fun w' hw' => by (obtain ⟨v0, v1, v2, v3, v4, v5⟩ := hw'; (try go_simp); try rfl)) (fun K hK => ?_); go_simp; refine hK _ _ ?_; clear hK K))
      refine lexO_step rfl (fun K hK => ?_)
      go_wp2_with fail
      refine hK _ _ ⟨z0, z1, z2, u0, u1, u2⟩ ?_
      clear hK K
      refine lexO_nil ?_
      go_wp2
      go_ret
      exact ⟨rfl, below_next HBW.out HN11.out⟩
end Go.Proofs.YtoahaigfjfeopaaGreatDoor

/- THE CARD OF arboristlaw06.InstMoves: its contract, its row, its card. -/
namespace Go.Proofs.YtoahaigfjfeopaaGreatDoor.instMoves
open Go.ChangeShapes Go.WideShapes Go.ChangeAt Go.RowKit

set_option maxRecDepth 100000 in
theorem contract (H : Type) (enc : TypeId × Value → H) (W : World) (base : Nat) (args : Array Value) (ds gs : List (DataW H)) (before : List MemPlace)
    (hval : ∀ (j : Nat) t v, Tryz.f8.params[j]? = some t → args[j]? = some v → Value.okWide Tryz.prog W .any base t v)
    (hW : DataW.Whole enc Tryz.prog Tryz.f8.params.toList Rows.instMovesSpec.vars false W args.toList ds gs before)
    (hsz : (DataW.weightsEach Tryz.prog (Tryz.f8.params.toList ++ []) (ds ++ gs)).all (· ≤ reachBytes) = true) (hL : laidMetH Tryz.prog Rows.instMovesRow.laid W) :
    Calls Tryz.prog 8 args W fun e W' => ∃ v, e = .returned v ∧ Rows.instMovesSpec.post enc Tryz.prog Tryz.f8 false true false false W args v W' := by
  have hW' := hW
  obtain ⟨p, q, hA0, hV, rfl, hfz, hnd⟩ := hW
  have hA : DataW.TrodAll enc Tryz.prog W 0 (fun _ => true) true Tryz.f8.params.toList args.toList ds p := hA0
  rw [Tryz.params8] at hA hval hsz
  obtain ⟨v0, vs0, d0, ds0, p0, q0, hargs, rfl, rfl, h0, r0⟩ := trodAll_cons hA
  obtain ⟨rfl, rfl, rfl⟩ := trodAll_nil r0
  obtain rfl : args = #[v0] := by cases args; simp_all
  obtain ⟨rfl, rfl⟩ := trodVars_none hV
  simp only [List.append_nil] at hW' hsz
  obtain ⟨u0, u1, u2, x, rfl, hx⟩ := open_inst (hval 0 26 v0 rfl rfl) h0 hsz
  refine (moves_law u0 u1 u2 x _ W (env_of_laid hL) hx).mono fun e W' ⟨he, hg⟩ => ?_
  subst he
  exact ⟨_, rfl, post_true1 Tryz.params8 (by kernel_rfl) rfl rfl (by kernel_rfl) (of_decide_eq_true (by kernel_rfl)) h0 hW' hg⟩

theorem reads (os : Os) {H : Type} (enc : TypeId × Value → H) : ∃ places, DataW.whole enc Tryz.prog ((World.doorLaid Tryz.prog 200 os).forCall (fun _ _ => 0) ⟨#[], #[.agg #[.slice none 0 0, .slice none 0 0, .slice none 0 0]], []⟩).memory Tryz.f8.params.toList Rows.instMovesSpec.vars false #[Value.agg #[.slice none 0 0, .slice none 0 0, .slice none 0 0]].toList 8 = some ([.agg [.nil, .nil, .nil]], [], places) :=
  ⟨[], by kernel_rfl⟩

set_option maxRecDepth 100000 in
theorem lifted (os : Os) (started : os.Started) (H : Type) (enc : TypeId × Value → H) (F : Stop.Interp) :
    ReturnsInHanded {} Tryz.checked os 8 .any ((OpenSpec.ofChange Rows.instMovesSpec).preRow enc Tryz.prog Tryz.f8 Rows.instMovesRow.domain false Rows.instMovesRow.laid) (((OpenSpec.ofChange Rows.instMovesSpec).at F).post enc Tryz.prog Tryz.f8 false true false false) := by
  obtain ⟨places, hx⟩ := reads os enc
  refine returnsInHanded_of_row (C := Tryz.checked) (s := OpenSpec.ofChange Rows.instMovesSpec) own_knob started (by kernel_rfl) Tryz.func8
    (witness_row_atRef (enc := enc) (C := Tryz.checked) false (World.doorLaid Tryz.prog 200 os) #[.agg #[.slice none 0 0, .slice none 0 0, .slice none 0 0]] rfl (by kernel_rfl) (by kernel_rfl) (by kernel_rfl)
      (OpenSpec.preRow_of_cond 8 hx (by kernel_rfl) (fun k hk => by cases hk) (by kernel_rfl) (laid_met os _))) ?_
  intro W base args ds gs before hval hW _ _ hsz hL _ _
  exact contract H enc W base args ds gs before hval hW hsz hL

theorem said : Rows.InstMovesSaid :=
  OpenClaim.holds_of_cond 8 Tryz.f8 rfl rfl rfl rfl rfl rfl rfl ⟨rfl, rfl, rfl, rfl, rfl⟩ rfl rfl rfl rfl rfl (by kernel_rfl) Tryz.func8 (by kernel_rfl)
    (of_decide_eq_true (by kernel_rfl)) (by unfold Func.isWrapper; first | (rw [if_pos (by decide +kernel)]; kernel_rfl) | (rw [if_neg (by decide +kernel)]; exact ⟨rfl, rfl⟩))
    (fun os started H enc _ F => by rw [OpenClaim.pre_eq_preRow]; exact lifted os started H enc F)

theorem plain (f : FuncId) (fn : Func) (hf : Tryz.pinned.checked.prog.funcNamed "arborist/arboristlaw06.InstMoves" = some f) (hfn : Tryz.pinned.checked.prog.funcs[f]? = some fn) :
    true = Tryz.pinned.checked.prog.looks [] ∧ ∀ (j : Nat) t, fn.params[j]? = some t → Tryz.pinned.checked.prog.wantsStandIn t = false := by
  obtain rfl : f = 8 := Option.some.inj ((show Tryz.prog.funcNamed "arborist/arboristlaw06.InstMoves" = some 8 by kernel_rfl).symm.trans hf) |>.symm
  obtain rfl : fn = Tryz.f8 := (Option.some.inj (Tryz.func8.symm.trans hfn)).symm
  refine ⟨by kernel_rfl, fun j t ht => ?_⟩
  rw [Tryz.params8] at ht
  obtain rfl : t = 26 := by simpa using Array.mem_of_getElem? ht
  exact (show Tryz.prog.wantsStandIn 26 = false by kernel_rfl)

theorem card : Rows.InstMovesCardSaid :=
  Claim7.holds_tied_plain_at .later [] _ _ _ _ said (fun _ h => by cases h) (by kernel_rfl) (fun _ h => by cases h) instMoves_row_tie rfl ⟨rfl, rfl⟩ (by kernel_rfl) rfl plain (by kernel_rfl)
end Go.Proofs.YtoahaigfjfeopaaGreatDoor.instMoves
