/- Texts joined: Kj Kja Kjb Kk Wc Km Kl Pe Wn. -/
import Derived.Test.YtgpgmmkkmoecmaaGreatDoorNmb
import Derived.Test.YtgpgmmkkmoecmaaGreatDoorNma
import Derived.RangeFuncBox
import Derived.RangeFuncLeaves
import Derived.Shelf.Abstract
import Derived.WalkKit
import Derived.OwnWalkIn
import Derived.TacticsInMore
import Derived.LoopNIn
import Derived.LoopIn
import Derived.Maps.AppendAt
import Derived.Test.YtgpgmmkkmoecmaaGreatDoorProg
import Derived.Lib.ParseIntB
import Derived.Test.YtgpgmmkkmoecmaaGreatDoorShelf
import Derived.Laws.DeepStrings4
import Derived.Deep.DeepFit
/- Closed calls, evaluated: regions that draw their order. Plain lemmas over the model; no program. -/
namespace Go.Proofs.YtgpgmmkkmoecmaaGreatDoor
open Go Go.RowKit

section
variable {E : Ev} {W w w' : World} {γ γ' : Nm} {g gV gT g' : Nat → Option AO} {x x' : Nat}
theorem RelG.sub (h : RelG E W γ g x w) (hs : ∀ i ob, gV i = some ob → g i = some ob) : RelG E W γ gV x w :=
  ⟨h.fresh, h.small, h.glob, fun i ob hi => h.has i ob (hs i ob hi), fun i j oi oj bi bj h1 h2 => h.inj i j oi oj bi bj (hs _ _ h1) (hs _ _ h2), h.old⟩
/-- What an operation that saw less did, with what it did not see. -/
theorem frame_step (hS : RelG E W γ g x w) (hs : ∀ i ob, gV i = some ob → g i = some ob) (hT : RelG E W γ' gT x' w') (hG : GoesG γ γ' gV gT x x' w w')
    (h1 : ∀ i ob, g i = some ob → gV i = none → g' i = some ob) (h2 : ∀ i, (g i = none ∨ gV i ≠ none) → g' i = gT i) : RelG E W γ' g' x' w' ∧ GoesG γ γ' g g' x x' w w' := by
  have case : ∀ i ob, g' i = some ob → (g i = some ob ∧ gV i = none) ∨ gT i = some ob := fun i ob hi => by
    by_cases hc : g i = none ∨ gV i ≠ none
    · exact .inr (by rw [← h2 i hc]; exact hi)
    · refine .inl ?_
      cases hgi : g i with
      | none => exact absurd (.inl hgi) hc
      | some o =>
        have hv : gV i = none := Classical.byContradiction fun hne => hc (.inr hne)
        rw [h1 i o hgi hv] at hi
        exact ⟨hi, hv⟩
  have back : ∀ i ob bk, g i = some ob → γ' i = some bk → γ i = some bk := fun i ob bk hi hb => by
    obtain ⟨bk', e1, _⟩ := hS.has i ob hi
    rw [hG.ext _ _ e1] at hb; cases hb
    exact e1
  have xt : ∀ {i j oi oj bi bj}, g i = some oi → gV i = none → γ' i = some bi → gT j = some oj → γ' j = some bj → (oi.own = true ∨ oj.own = true) → bi.b = bj.b → False := fun {i j oi oj bi bj} a1 a2 a3 a4 a5 a6 a7 => by
    have e1 := back i oi bi a1 a3
    obtain ⟨bk, e2, e3, _⟩ := hS.has i oi a1
    rw [e1] at e2; cases e2
    rcases hG.from_ j oj bj a4 a5 with e4 | ⟨l, ol, bl, e4, e5, e6, e7⟩
    · omega
    · rcases a6 with a6 | a6
      · have := hS.inj i l oi ol bi bl a1 (hs _ _ e4) a6 e1 e5 (by omega)
        subst this
        rw [a2] at e4; cases e4
      · have := hS.inj l i ol oi bl bi (hs _ _ e4) a1 (e7 a6) e5 e1 (by omega)
        subst this
        rw [a2] at e4; cases e4
  refine ⟨⟨hT.fresh, hT.small, hT.glob, fun i ob hi => ?_, fun i j oi oj bi bj hi hj ho hbi hbj he => ?_, hT.old⟩, ⟨hG.ext, hG.keep, hG.nx, hG.size, fun k hk hn => hG.frame k hk fun i ob bk hi => hn i ob bk (hs i ob hi), fun i hi hn => ?_, fun i ob bk hi hb => ?_⟩⟩
  · rcases case i ob hi with ⟨a1, a2⟩ | a1
    · obtain ⟨bk, e1, e2, e3, e4⟩ := hS.has i ob a1
      refine ⟨bk, hG.ext _ _ e1, Nat.lt_of_lt_of_le e2 hG.size, AO.at_congr (hG.frame _ e2 fun j oj bj b1 b2 b3 b4 => ?_) (AO.at_ext hG.ext e3), e4⟩
      have := hS.inj j i oj ob bj bk (hs _ _ b1) a1 b3 b2 e1 b4
      subst this
      rw [a2] at b1; cases b1
    · exact hT.has i ob a1
  · rcases case i oi hi with ⟨a1, a2⟩ | a1 <;> rcases case j oj hj with ⟨b1, b2⟩ | b1
    · exact hS.inj i j oi oj bi bj a1 b1 ho (back _ _ _ a1 hbi) (back _ _ _ b1 hbj) he
    · exact (xt a1 a2 hbi b1 hbj (.inl ho) he).elim
    · exact (xt b1 b2 hbj a1 hbi (.inr ho) he.symm).elim
    · exact hT.inj i j oi oj bi bj a1 b1 ho hbi hbj he
  · rw [h2 i (.inl hn)]
    refine hG.dom i hi ?_
    cases hv : gV i with
    | none => rfl
    | some o => rw [hs _ _ hv] at hn; cases hn
  · rcases case i ob hi with ⟨a1, a2⟩ | a1
    · exact .inr ⟨i, ob, bk, a1, back _ _ _ a1 hb, rfl, fun h => h⟩
    · rcases hG.from_ i ob bk a1 hb with e1 | ⟨j, oj, bj, e1, e2, e3, e4⟩
      · exact .inl e1
      · exact .inr ⟨j, oj, bj, hs _ _ e1, e2, e3, e4⟩
/-- A new block, under a name that was kept for it. -/
theorem new_at {ob : AO} (h : RelG E W γ g x w) {i : Nat} (hi : i < x) (hn : γ i = none) {bk : Bk} (hb : bk.b = w.heap.size) (hs : w.heap.size < w'.heap.size) (hk : ∀ k, k < w.heap.size → w'.heap[k]? = w.heap[k]?) (ho : w'.os = w.os) (ht : w'.tape = w.tape) (hp : w'.output = w.output)
    (ha : ob.at_ E.P (nameB γ i bk) bk w') (hg : ∀ j, g' j = if j = i then some ob else g j) : RelG E W (nameB γ i bk) g' x w' ∧ Ext γ (nameB γ i bk) := by
  have hext := nameB_ext hn bk
  have hold := h.old.size
  refine ⟨⟨fun j hj => ?_, h.small, fun y hy => ?_, fun j oj hj => ?_, fun a b oa ob' ba bb h1 h2 h3 h4 h5 h6 => ?_, ?_⟩, hext⟩
  · unfold nameB
    rw [if_neg (by omega)]
    exact h.fresh j hj
  · obtain ⟨k', nl', e⟩ := h.glob y hy
    exact ⟨k', nl', hext _ _ e⟩
  · rw [hg] at hj
    split at hj
    · rename_i e
      subst e
      cases hj
      exact ⟨_, nameB_same, by omega, ha, fun _ => by omega⟩
    · obtain ⟨bj, h1, h2, h3, h4⟩ := h.has j oj hj
      exact ⟨bj, hext _ _ h1, by omega, AO.at_congr (hk _ h2) (AO.at_ext hext h3), h4⟩
  · rw [hg] at h1 h2
    split at h1
    · rename_i e
      subst e
      split at h2
      · rename_i e2; exact e2.symm
      · obtain ⟨bj, e1, e2, _⟩ := h.has b ob' h2
        rw [hext _ _ e1] at h5; cases h5
        rw [nameB_same] at h4; cases h4
        omega
    · obtain ⟨bj, e1, e2, _⟩ := h.has a oa h1
      rw [hext _ _ e1] at h4; cases h4
      split at h2
      · rename_i e
        subst e
        rw [nameB_same] at h5; cases h5
        omega
      · obtain ⟨bk', e1', e2', _⟩ := h.has b ob' h2
        rw [hext _ _ e1'] at h5; cases h5
        exact h.inj _ _ _ _ _ _ h1 h2 h3 e1 e1' h6
  · exact ⟨ho.trans h.old.os, ht.trans h.old.tape, hp.trans h.old.output, by omega, fun k hk' => (hk k (by omega)).trans (h.old.block k hk')⟩
end
/-! ### What the evaluation of such a region says -/
structure DS where
  tm : Tr AV
  T : ES
  nw : List (Nat × AO)
  ld : List (Nat × Tr AV × Op × AV)
  hs : List (Nat × ES)
structure Oc where
  k : Nat
  v : AV
  ob : AO
  T : ES
theorem bif_some {α : Type} {b : Bool} {x : Option α} {r : α} (h : (bif b then x else none) = some r) : b = true ∧ x = some r := by cases b <;> simp_all
section
variable (E : Ev) (call : Nat → List AV → ES → Option (AV × ES)) (ops : Array Oper) (n x0 : Nat) (anc : Array Nat)
/-- One operation's part. k: 0: it only computes, or is not wanted; 1: it reads; 2: a new block; 3: anything else. -/
def StepP (j : Nat) (q : Oper) (s : DS) (o : Oc) (s' : DS) : Prop :=
  putA n s.tm q.dst o.v = some s'.tm ∧
  ((o.k = 0 ∧ ((Region.wanted q (yieldA ops s.tm) = false ∧ o.v = .c undef) ∨ (Region.wanted q (yieldA ops s.tm) = true ∧ evPure E (aev s.tm) q.type q.op = some o.v)) ∧ s'.T = s.T ∧ s'.nw = s.nw ∧ s'.ld = s.ld ∧ s'.hs = s.hs) ∨
   (o.k = 1 ∧ Region.wanted q (yieldA ops s.tm) = true ∧ evLoad E (addN x0 (ancB anc j) s.T s.nw) (aev s.tm) q.op = some o.v ∧ (∀ i Tb, (i, Tb) ∈ s.hs → ancB anc j i = true ∨ sameO (evLoad E Tb (aev s.tm) q.op) o.v = true) ∧ s'.T = s.T ∧ s'.nw = s.nw ∧ s'.ld = (j, s.tm, q.op, o.v) :: s.ld ∧ s'.hs = s.hs) ∨
   (o.k = 2 ∧ Region.wanted q (yieldA ops s.tm) = true ∧ evNew E (aev s.tm) (x0 + j) q.op = some (o.v, o.ob) ∧ s'.T = s.T ∧ s'.nw = (j, o.ob) :: s.nw ∧ s'.ld = s.ld ∧ s'.hs = s.hs) ∨
   (o.k = 3 ∧ Region.wanted q (yieldA ops s.tm) = true ∧ execA E call (aev s.tm) q.type (addN x0 (ancB anc j) s.T s.nw) q.op = some (o.v, o.T) ∧ (∀ i Tb, (i, Tb) ∈ s.hs → ancB anc j i = true) ∧
     (∀ k tk op u, (k, tk, op, u) ∈ s.ld → ancB anc j k = true ∨ sameO (evLoad E o.T (aev tk) op) u = true) ∧ s'.T = o.T ∧ s'.nw = s.nw.filter (fun p => !ancB anc j p.1) ∧ s'.ld = s.ld ∧ s'.hs = (j, s.T) :: s.hs))
theorem draw_steps : ∀ (l : List Oper) (i : Nat) (s : DS) (tm' : Tr AV) (st' : ES), drawA E call ops n x0 anc l i s.tm s.T s.nw s.ld s.hs = some (tm', st') →
    ∃ (S : Nat → DS) (O : Nat → Oc), S i = s ∧ (∀ k q, l[k]? = some q → StepP E call ops n x0 anc (i + k) q (S (i + k)) (O (i + k)) (S (i + k + 1))) ∧ tm' = (S (i + l.length)).tm ∧ st' = addN x0 (fun _ => true) (S (i + l.length)).T (S (i + l.length)).nw
  | [], i, s, tm', st', h => by
    simp only [drawA, Option.some.injEq, Prod.mk.injEq] at h
    exact ⟨fun _ => s, fun _ => ⟨0, .c undef, .map [], s.T⟩, rfl, fun k q hq => by simp at hq, h.1.symm, h.2.symm⟩
  | q :: l, i, s, tm', st', h => by
    have go : ∀ (s1 : DS) (o : Oc), StepP E call ops n x0 anc i q s o s1 → drawA E call ops n x0 anc l (i + 1) s1.tm s1.T s1.nw s1.ld s1.hs = some (tm', st') →
        ∃ (S : Nat → DS) (O : Nat → Oc), S i = s ∧ (∀ k q', (q :: l)[k]? = some q' → StepP E call ops n x0 anc (i + k) q' (S (i + k)) (O (i + k)) (S (i + k + 1))) ∧ tm' = (S (i + (q :: l).length)).tm ∧ st' = addN x0 (fun _ => true) (S (i + (q :: l).length)).T (S (i + (q :: l).length)).nw := by
      intro s1 o hs1 hrest
      obtain ⟨S, O, e1, e2, e3, e4⟩ := draw_steps l (i + 1) s1 tm' st' hrest
      refine ⟨fun j => if j = i then s else S j, fun j => if j = i then o else O j, by simp, fun k q' hq => ?_, ?_, ?_⟩
      · cases k with
        | zero =>
          simp only [List.getElem?_cons_zero, Option.some.injEq] at hq
          subst hq
          simp only [Nat.add_zero, if_true]
          rw [if_neg (by omega), e1]
          exact hs1
        | succ k =>
          simp only [List.getElem?_cons_succ] at hq
          have := e2 k q' hq
          rw [show i + (k + 1) = i + 1 + k by omega]
          show StepP E call ops n x0 anc _ q' (if i + 1 + k = i then s else S (i + 1 + k)) (if i + 1 + k = i then o else O (i + 1 + k)) (if i + 1 + k + 1 = i then s else S (i + 1 + k + 1))
          rw [if_neg (by omega), if_neg (by omega), if_neg (by omega)]
          exact this
      · rw [List.length_cons, show i + (l.length + 1) = i + 1 + l.length by omega]
        show tm' = (if i + 1 + l.length = i then s else S (i + 1 + l.length)).tm
        rw [if_neg (by omega), e3]
      · rw [List.length_cons, show i + (l.length + 1) = i + 1 + l.length by omega]
        show st' = addN x0 (fun _ => true) (if i + 1 + l.length = i then s else S (i + 1 + l.length)).T (if i + 1 + l.length = i then s else S (i + 1 + l.length)).nw
        rw [if_neg (by omega), e4]
    simp only [drawA] at h
    cases hw : Region.wanted q (yieldA ops s.tm) with
    | false =>
      rw [hw] at h
      simp only [cond_false] at h
      split at h
      · simp at h
      · rename_i tm1 hput
        exact go ⟨tm1, s.T, s.nw, s.ld, s.hs⟩ ⟨0, .c undef, .map [], s.T⟩ ⟨hput, .inl ⟨rfl, .inl ⟨hw, rfl⟩, rfl, rfl, rfl, rfl⟩⟩ h
    | true =>
      rw [hw] at h
      simp only [cond_true] at h
      split at h
      · rename_i v hp
        split at h
        · simp at h
        · rename_i tm1 hput
          exact go ⟨tm1, s.T, s.nw, s.ld, s.hs⟩ ⟨0, v, .map [], s.T⟩ ⟨hput, .inl ⟨rfl, .inr ⟨hw, hp⟩, rfl, rfl, rfl, rfl⟩⟩ h
      · split at h
        · rename_i v hl
          obtain ⟨hall, h⟩ := bif_some h
          split at h
          · simp at h
          · rename_i tm1 hput
            refine go ⟨tm1, s.T, s.nw, (i, s.tm, q.op, v) :: s.ld, s.hs⟩ ⟨1, v, .map [], s.T⟩ ⟨hput, .inr (.inl ⟨rfl, hw, hl, fun j Tb hj => ?_, rfl, rfl, rfl, rfl⟩)⟩ h
            have := List.all_eq_true.1 hall (j, Tb) hj
            simpa using this
        · split at h
          · rename_i v ob hn
            split at h
            · simp at h
            · rename_i tm1 hput
              exact go ⟨tm1, s.T, (i, ob) :: s.nw, s.ld, s.hs⟩ ⟨2, v, ob, s.T⟩ ⟨hput, .inr (.inr (.inl ⟨rfl, hw, hn, rfl, rfl, rfl, rfl⟩))⟩ h
          · split at h
            · simp at h
            · rename_i v T' hx
              obtain ⟨hall, h⟩ := bif_some h
              split at h
              · simp at h
              · rename_i tm1 hput
                simp only [Bool.and_eq_true] at hall
                refine go ⟨tm1, T', s.nw.filter (fun p => !ancB anc i p.1), s.ld, (i, s.T) :: s.hs⟩ ⟨3, v, .map [], T'⟩ ⟨hput, .inr (.inr (.inr ⟨rfl, hw, hx, fun j Tb hj => ?_, fun k tk op u hk => ?_, rfl, rfl, rfl, rfl⟩))⟩ h
                · exact List.all_eq_true.1 hall.1 (j, Tb) hj
                · have := List.all_eq_true.1 hall.2 (k, tk, op, u) hk
                  simpa using this
end
structure StaticP (ops : Array Oper) (anc : Array Nat) : Prop where
  edge : ∀ (i : Nat) (o : Oper), ops[i]? = some o → ∀ e ∈ o.after, Region.binds .any e = true → e.on < i ∧ ancB anc i e.on = true
  anc_ : ∀ (i : Nat) (o : Oper), ops[i]? = some o → ∀ j, j < ops.size → ancB anc i j = true → j < i ∧ ∃ e ∈ o.after, Region.binds .any e = true ∧ (e.on = j ∨ ancB anc e.on j = true)
  apart : ∀ (i j : Nat) (o q : Oper), ops[i]? = some o → ops[j]? = some q → j < i → (ancB anc i j = true ∨ q.apart ops o = true) ∧ (o.dst = none ∨ o.dst ≠ q.dst)
theorem static_ok {ops : Array Oper} {anc : Array Nat} (h : staticB ops anc = true) : StaticP ops anc := by
  unfold staticB at h
  have key : ∀ (i : Nat) (o : Oper), ops[i]? = some o → (o, i) ∈ ops.toList.zipIdx := fun i o ho => by
    rw [List.mem_zipIdx_iff_getElem?]
    simpa using ho
  refine ⟨fun i o ho e he hb => ?_, fun i o ho j hj ha => ?_, fun i j o q ho hq hji => ?_⟩
  · have h1 := List.all_eq_true.1 h (o, i) (key i o ho)
    simp only [Bool.and_eq_true] at h1
    have h2 := List.all_eq_true.1 h1.1.1 e (by simpa using he)
    rw [hb] at h2
    simp only [Bool.not_true, Bool.false_or, Bool.and_eq_true] at h2
    exact ⟨blt_lt h2.1, h2.2⟩
  · have h1 := List.all_eq_true.1 h (o, i) (key i o ho)
    simp only [Bool.and_eq_true] at h1
    have h2 := List.all_eq_true.1 h1.1.2 j (List.mem_range.2 hj)
    rw [ha] at h2
    simp only [Bool.not_true, Bool.false_or, Bool.and_eq_true] at h2
    obtain ⟨e, he, h3⟩ := List.any_eq_true.1 h2.2
    simp only [Bool.and_eq_true, Bool.or_eq_true] at h3
    exact ⟨blt_lt h2.1, e, by simpa using he, h3.1, h3.2.imp Nat.eq_of_beq_eq_true id⟩
  · have h1 := List.all_eq_true.1 h (o, i) (key i o ho)
    simp only [Bool.and_eq_true] at h1
    have h2 := List.all_eq_true.1 h1.2 (q, j) (key j q hq)
    rw [show Nat.blt j i = true from Nat.ble_eq_true_of_le hji] at h2
    simp only [Bool.not_true, Bool.false_or, Bool.and_eq_true, Bool.or_eq_true] at h2
    refine ⟨h2.1, h2.2.imp (fun h => by cases hd : o.dst with
      | none => rfl
      | some d => rw [hd] at h; simp at h) (fun h e => by simp [e] at h)⟩
section
variable {E : Ev} {call : Nat → List AV → ES → Option (AV × ES)} {ops : Array Oper} {n x0 : Nat} {anc : Array Nat} {S : Nat → DS} {O : Nat → Oc} {tm0 : Tr AV} {T0 : ES}
structure Fx (ops : Array Oper) (n : Nat) (anc : Array Nat) (S : Nat → DS) (O : Nat → Oc) (tm0 : Tr AV) (T0 : ES) (j : Nat) : Prop where
  tmIn : ∀ (k : Nat) (q : Oper) (t : Nat), k < j → ops[k]? = some q → q.dst = some t → aev (S j).tm (.tmp t) = (O k).v
  tmOut : ∀ t : Nat, (∀ (k : Nat) (q : Oper), k < j → ops[k]? = some q → q.dst ≠ some t) → aev (S j).tm (.tmp t) = aev tm0 (.tmp t)
  out : ∀ t : Nat, n ≤ t → (S j).tm.get t = none
  TIn : ∀ h, h < j → (O h).k = 3 → (∀ h', h < h' → h' < j → (O h').k ≠ 3) → (S j).T = (O h).T
  TOut : (∀ h, h < j → (O h).k ≠ 3) → (S j).T = T0
  nw : ∀ m ob, (m, ob) ∈ (S j).nw ↔ (m < j ∧ (O m).k = 2 ∧ ob = (O m).ob ∧ ∀ h, h < j → (O h).k = 3 → ancB anc h m = false)
  ld : ∀ (k : Nat) (q : Oper), k < j → (O k).k = 1 → ops[k]? = some q → (k, (S k).tm, q.op, (O k).v) ∈ (S j).ld
  hs : ∀ h, h < j → (O h).k = 3 → (h, (S h).T) ∈ (S j).hs
theorem fx_ok (hn : n ≤ 1000000) (hS : StaticP ops anc) (h0 : S 0 = ⟨tm0, T0, [], [], []⟩) (hout : ∀ t : Nat, n ≤ t → tm0.get t = none) (hst : ∀ (k : Nat) (q : Oper), ops[k]? = some q → StepP E call ops n x0 anc k q (S k) (O k) (S (k + 1))) : ∀ j, j ≤ ops.size → Fx ops n anc S O tm0 T0 j
  | 0, _ => by
    refine ⟨fun k q t hk => by omega, fun t _ => by rw [h0], fun t ht => by rw [h0]; exact hout t ht, fun h hh => by omega, fun _ => by rw [h0], fun m ob => by rw [h0]; simp, fun k q hk => by omega, fun h hh => by omega⟩
  | j + 1, hj => by
    have F := fx_ok hn hS h0 hout hst j (by omega)
    have hq : ops[j]? = some (ops[j]'(by omega)) := Array.getElem?_eq_getElem (by omega)
    generalize ops[j]'(by omega) = q at hq
    obtain ⟨hput, hstep⟩ := hst j q hq
    have hnd : ∀ (k : Nat) (q' : Oper) (t : Nat), k < j → ops[k]? = some q' → q'.dst = some t → q.dst ≠ some t := fun k q' t hk hk' hd e => by
      rcases (hS.apart j k q q' hq hk' hk).2 with h | h
      · rw [h] at e; cases e
      · exact h (e.trans hd.symm)
    have put : ∀ t : Nat, (q.dst = some t → aev (S (j + 1)).tm (.tmp t) = (O j).v) ∧ (q.dst ≠ some t → aev (S (j + 1)).tm (.tmp t) = aev (S j).tm (.tmp t)) ∧ (n ≤ t → (S (j + 1)).tm.get t = (S j).tm.get t) := fun t => by
      unfold putA at hput
      cases hd : q.dst with
      | none =>
        rw [hd] at hput
        simp only [Option.some.injEq] at hput
        exact ⟨fun e => (by cases e), fun _ => by rw [hput], fun _ => by rw [hput]⟩
      | some d =>
        rw [hd] at hput
        obtain ⟨hb, hput⟩ := bif_some hput
        have hb := blt_lt hb
        simp only [Option.some.injEq] at hput
        rw [← hput]
        refine ⟨fun e => ?_, fun e => ?_, fun ht => ?_⟩
        · cases e
          rw [aev_put (by omega), if_pos rfl]
        · rw [aev_put (by omega), if_neg (fun h => e (by rw [h]))]
        · rw [Tr.get_put (by omega), if_neg (by omega)]
    have hk : (O j).k = 0 ∨ (O j).k = 1 ∨ (O j).k = 2 ∨ (O j).k = 3 := by
      rcases hstep with h | h | h | h
      · exact .inl h.1
      · exact .inr (.inl h.1)
      · exact .inr (.inr (.inl h.1))
      · exact .inr (.inr (.inr h.1))
    have hno : ∀ h, h < j → ancB anc h j = false := fun h hh => by
      cases ha : ancB anc h j with
      | false => rfl
      | true =>
        have hq' : ops[h]? = some (ops[h]'(by omega)) := Array.getElem?_eq_getElem (by omega)
        have := (hS.anc_ h _ hq' j (by omega) ha).1
        omega
    have lt_split : ∀ {m : Nat}, m < j + 1 → m < j ∨ m = j := fun h => by omega
    have light : (O j).k ≠ 3 → (S (j + 1)).T = (S j).T := fun h3 => by
      rcases hstep with h | h | h | h
      · exact h.2.2.1
      · exact h.2.2.2.2.1
      · exact h.2.2.2.1
      · exact absurd h.1 h3
    refine ⟨fun k q' t hk' hq' hd => ?_, fun t ht => ?_, fun t ht => by rw [(put t).2.2 ht]; exact F.out t ht, fun h hh h3 hlast => ?_, fun hno3 => ?_, fun m ob => ?_, fun k q' hk' h1 hq' => ?_, fun h hh h3 => ?_⟩
    · rcases lt_split hk' with hlt | rfl
      · rw [(put t).2.1 (hnd k q' t hlt hq' hd)]; exact F.tmIn k q' t hlt hq' hd
      · rw [hq] at hq'; cases hq'
        exact (put t).1 hd
    · rw [(put t).2.1 (ht j q (by omega) hq)]
      exact F.tmOut t fun k q' hk' hq' => ht k q' (by omega) hq'
    · rcases lt_split hh with hlt | rfl
      · rw [light (hlast j hlt (by omega))]
        exact F.TIn h hlt h3 fun h' a b => hlast h' a (by omega)
      · rcases hstep with g | g | g | g
        · rw [g.1] at h3; cases h3
        · rw [g.1] at h3; cases h3
        · rw [g.1] at h3; cases h3
        · exact g.2.2.2.2.2.1
    · rw [light (hno3 j (by omega))]
      exact F.TOut fun h hh => hno3 h (by omega)
    · have same : (O j).k ≠ 2 → (O j).k ≠ 3 → (S (j + 1)).nw = (S j).nw → ((m, ob) ∈ (S (j + 1)).nw ↔ (m < j + 1 ∧ (O m).k = 2 ∧ ob = (O m).ob ∧ ∀ h, h < j + 1 → (O h).k = 3 → ancB anc h m = false)) := fun h2 h3 he => by
        rw [he, F.nw m ob]
        constructor
        · rintro ⟨a, b, c, d⟩
          exact ⟨by omega, b, c, fun h hh h3' => by
            rcases lt_split hh with hlt | rfl
            · exact d h hlt h3'
            · exact absurd h3' h3⟩
        · rintro ⟨a, b, c, d⟩
          refine ⟨?_, b, c, fun h hh h3' => d h (by omega) h3'⟩
          rcases lt_split a with hlt | rfl
          · exact hlt
          · exact absurd b h2
      rcases hstep with g | g | g | g
      · exact same (by rw [g.1]; decide) (by rw [g.1]; decide) g.2.2.2.1
      · exact same (by rw [g.1]; decide) (by rw [g.1]; decide) g.2.2.2.2.2.1
      · rw [g.2.2.2.2.1, List.mem_cons, F.nw m ob]
        constructor
        · rintro (e | ⟨a, b, c, d⟩)
          · cases e
            exact ⟨by omega, g.1, rfl, fun h hh h3' => by
              rcases lt_split hh with hlt | rfl
              · exact hno h hlt
              · rw [g.1] at h3'; cases h3'⟩
          · exact ⟨by omega, b, c, fun h hh h3' => by
              rcases lt_split hh with hlt | rfl
              · exact d h hlt h3'
              · rw [g.1] at h3'; cases h3'⟩
        · rintro ⟨a, b, c, d⟩
          rcases lt_split a with hlt | rfl
          · exact .inr ⟨hlt, b, c, fun h hh h3' => d h (by omega) h3'⟩
          · exact .inl (by rw [c])
      · rw [g.2.2.2.2.2.2.1, List.mem_filter, F.nw m ob]
        constructor
        · rintro ⟨⟨a, b, c, d⟩, hf⟩
          exact ⟨by omega, b, c, fun h hh h3' => by
            rcases lt_split hh with hlt | rfl
            · exact d h hlt h3'
            · simpa using hf⟩
        · rintro ⟨a, b, c, d⟩
          refine ⟨⟨?_, b, c, fun h hh h3' => d h (by omega) h3'⟩, by simpa using d j (by omega) g.1⟩
          rcases lt_split a with hlt | rfl
          · exact hlt
          · rw [g.1] at b; cases b
    · rcases lt_split hk' with hlt | rfl
      · have := F.ld k q' hlt h1 hq'
        rcases hstep with g | g | g | g
        · rw [g.2.2.2.2.1]; exact this
        · rw [g.2.2.2.2.2.2.1]; exact List.mem_cons_of_mem _ this
        · rw [g.2.2.2.2.2.1]; exact this
        · rw [g.2.2.2.2.2.2.2.1]; exact this
      · rw [hq] at hq'; cases hq'
        rcases hstep with g | g | g | g
        · rw [g.1] at h1; cases h1
        · rw [g.2.2.2.2.2.2.1]; exact List.mem_cons_self ..
        · rw [g.1] at h1; cases h1
        · rw [g.1] at h1; cases h1
    · rcases lt_split hh with hlt | rfl
      · have := F.hs h hlt h3
        rcases hstep with g | g | g | g
        · rw [g.2.2.2.2.2]; exact this
        · rw [g.2.2.2.2.2.2.2]; exact this
        · rw [g.2.2.2.2.2.2]; exact this
        · rw [g.2.2.2.2.2.2.2.2]; exact List.mem_cons_of_mem _ this
      · rcases hstep with g | g | g | g
        · rw [g.1] at h3; cases h3
        · rw [g.1] at h3; cases h3
        · rw [g.1] at h3; cases h3
        · rw [g.2.2.2.2.2.2.2.2]; exact List.mem_cons_self ..
end
end Go.Proofs.YtgpgmmkkmoecmaaGreatDoor

/- Closed calls, evaluated: what an operation does hangs on its operands alone; alike values are the same; a region's new blocks. Plain lemmas; no program. -/
namespace Go.Proofs.YtgpgmmkkmoecmaaGreatDoor
open Go Go.RowKit

section
variable {E : Ev} {ρ1 ρ2 : Operand → AV} {st : ES}
theorem fillA_congr (place : Nat → Option (Nat × Nat)) : ∀ (parts : List (Nat × Operand)) (l : List AV), (∀ p ∈ parts, ρ1 p.2 = ρ2 p.2) → fillA place ρ1 parts l = fillA place ρ2 parts l
  | [], l, _ => rfl
  | (i, x) :: parts, l, h => by
    have hx := h (i, x) (List.mem_cons_self ..)
    simp only at hx
    simp only [fillA, hx]
    split
    · rfl
    · rw [fillA_congr place parts _ fun p hp => h p (List.mem_cons_of_mem _ hp)]
theorem parts_mem {parts : Array (Nat × Operand)} (h : ∀ x ∈ (parts.toList.map (·.2)).toArray, ρ1 x = ρ2 x) : ∀ p ∈ parts.toList, ρ1 p.2 = ρ2 p.2 := fun p hp => h p.2 (by simp; exact ⟨p.1, by simpa using hp⟩)
theorem call_args {c : Call} (h : ∀ x ∈ c.operands, ρ1 x = ρ2 x) : c.args.toList.map ρ1 = c.args.toList.map ρ2 := List.map_congr_left fun x hx => h x (by simp [Call.operands]; right; simpa using hx)
theorem evPure_congr {ty : TypeId} {op : Op} (h : ∀ x ∈ op.operands, ρ1 x = ρ2 x) : evPure E ρ1 ty op = evPure E ρ2 ty op := by
  cases op <;> simp only [Op.operands] at h <;> simp only [evPure]
  case slice t x lo hi mx =>
    have hx : ρ1 x = ρ2 x := h x (by simp)
    have h1 : ∀ d, idxA ρ1 d lo = idxA ρ2 d lo ∧ optA ρ1 lo = optA ρ2 lo := fun d => by
      cases lo with
      | none => exact ⟨rfl, rfl⟩
      | some y => have := h y (by simp); simp [idxA, optA, this]
    have h2 : ∀ d, idxA ρ1 d hi = idxA ρ2 d hi ∧ optA ρ1 hi = optA ρ2 hi := fun d => by
      cases hi with
      | none => exact ⟨rfl, rfl⟩
      | some y => have := h y (by simp); simp [idxA, optA, this]
    have h3 : ∀ d, idxA ρ1 d mx = idxA ρ2 d mx ∧ optA ρ1 mx = optA ρ2 mx := fun d => by
      cases mx with
      | none => exact ⟨rfl, rfl⟩
      | some y => have := h y (by simp); simp [idxA, optA, this]
    unfold pSlice
    simp only [hx, (h1 0).1, (h1 0).2, fun d => (h2 d).1, (h2 0).2, (h3 0).1, (h3 0).2]
  case build t parts => unfold pBuild; simp only [fun pl l => fillA_congr pl parts.toList l (parts_mem h)]
  case makeFunc fn first cap =>
    cases fn with
    | func f =>
      simp only
      rw [List.map_congr_left (l := first.toList) fun x hx => h x (by simp; left; simpa using hx), List.map_congr_left (l := cap.toList) fun x hx => h x (by simp; right; simpa using hx)]
    | _ => rfl
  case call c =>
    cases hc : c.callee with
    | builtin b => simp only [call_args h]
    | _ => rfl
  all_goals first
    | rfl
    | (simp at h; simp only [h]; done)
    | (simp at h; simp [h]; done)
theorem evLoad_congr {op : Op} (h : ∀ x ∈ op.operands, ρ1 x = ρ2 x) : evLoad E st ρ1 op = evLoad E st ρ2 op := by
  cases op <;> simp only [Op.operands] at h <;> simp only [evLoad]
  case call c =>
    cases hc : c.callee with
    | builtin b => simp only [call_args h]
    | _ => rfl
  all_goals first
    | rfl
    | (simp at h; simp [h]; done)
theorem evNew_congr {id : Nat} {op : Op} (h : ∀ x ∈ op.operands, ρ1 x = ρ2 x) : evNew E ρ1 id op = evNew E ρ2 id op := by
  cases op <;> simp only [Op.operands] at h <;> simp only [evNew]
  case buildSlice t n parts => unfold nRow; simp only [fun pl l => fillA_congr pl parts.toList l (parts_mem h)]
  case makeMap t r =>
    cases r with
    | none => rfl
    | some x => simp at h; simp [h]
  all_goals first
    | rfl
    | (simp at h; simp [h]; done)
theorem evHeavy_congr {op : Op} (h : ∀ x ∈ op.operands, ρ1 x = ρ2 x) : evHeavy E st ρ1 op = evHeavy E st ρ2 op := by
  cases op <;> simp only [Op.operands] at h <;> simp only [evHeavy]
  case call c =>
    cases hc : c.callee with
    | builtin b => simp only [call_args h]
    | _ => rfl
  all_goals first
    | rfl
    | (simp at h; simp [h]; done)
theorem calledA_congr {op : Op} (h : ∀ x ∈ op.operands, ρ1 x = ρ2 x) : calledA ρ1 op = calledA ρ2 op := by
  cases op <;> simp only [Op.operands] at h <;> simp only [calledA]
  case call c =>
    cases hc : c.callee with
    | value f => simp only [call_args h, h f (by simp [Call.operands, hc])]
    | _ => rfl
theorem execA_congr {call : Nat → List AV → ES → Option (AV × ES)} {ty : TypeId} {op : Op} (h : ∀ x ∈ op.operands, ρ1 x = ρ2 x) : execA E call ρ1 ty st op = execA E call ρ2 ty st op := by
  unfold execA evOp
  rw [calledA_congr h, evPure_congr h, evLoad_congr h, evNew_congr h, evHeavy_congr h]
end
theorem eqvV_ok : ∀ {a b : Value}, eqvV a b = true → a = b := by
  intro a b h
  unfold eqvV at h
  split at h
  · simp at h; rw [h]
  · simp at h; rw [h]
  · simp at h; rw [h]
  · simp only [Bool.and_eq_true] at h
    rw [Nat.eq_of_beq_eq_true h.1, Nat.eq_of_beq_eq_true h.2]
  · rfl
  · rfl
  · rename_i a b
    simp at h
    have : a = b := by
      cases a; cases b
      simp at h
      rw [h]
    rw [this]
  · cases h
mutual
theorem eqvA_ok : ∀ {x y : AV}, eqvA x y = true → x = y
  | .c a, .c b, h => by simp only [eqvA] at h; rw [eqvV_ok h]
  | .p i o, .p j q, h => by
    simp only [eqvA, Bool.and_eq_true] at h
    rw [Nat.eq_of_beq_eq_true h.1, Nat.eq_of_beq_eq_true h.2]
  | .s i o n r c, .s j q m t d, h => by
    simp only [eqvA, Bool.and_eq_true, beq_iff_eq] at h
    rw [Nat.eq_of_beq_eq_true h.1, Nat.eq_of_beq_eq_true h.2.1, Nat.eq_of_beq_eq_true h.2.2.1, h.2.2.2.1, Nat.eq_of_beq_eq_true h.2.2.2.2]
  | .z i, .z j, h => by simp only [eqvA] at h; rw [Nat.eq_of_beq_eq_true h]
  | .m i, .m j, h => by simp only [eqvA] at h; rw [Nat.eq_of_beq_eq_true h]
  | .g l, .g k, h => by simp only [eqvA] at h; rw [eqvL_ok h]
  | .c _, .p .., h | .c _, .s .., h | .c _, .z .., h | .c _, .y .., h | .c _, .m .., h | .c _, .g .., h | .c _, .t .., h | .c _, .f .., h => by simp [eqvA] at h
  | .p .., .c .., h | .p .., .s .., h | .p .., .z .., h | .p .., .y .., h | .p .., .m .., h | .p .., .g .., h | .p .., .t .., h | .p .., .f .., h => by simp [eqvA] at h
  | .s .., .c .., h | .s .., .p .., h | .s .., .z .., h | .s .., .y .., h | .s .., .m .., h | .s .., .g .., h | .s .., .t .., h | .s .., .f .., h => by simp [eqvA] at h
  | .z .., .c .., h | .z .., .p .., h | .z .., .s .., h | .z .., .y .., h | .z .., .m .., h | .z .., .g .., h | .z .., .t .., h | .z .., .f .., h => by simp [eqvA] at h
  | .m .., .c .., h | .m .., .p .., h | .m .., .s .., h | .m .., .z .., h | .m .., .y .., h | .m .., .g .., h | .m .., .t .., h | .m .., .f .., h => by simp [eqvA] at h
  | .g .., .c .., h | .g .., .p .., h | .g .., .s .., h | .g .., .z .., h | .g .., .y .., h | .g .., .m .., h | .g .., .t .., h | .g .., .f .., h => by simp [eqvA] at h
  | .y .., _, h | .t .., _, h | .f .., _, h => by simp [eqvA] at h
theorem eqvL_ok : ∀ {l k : List AV}, eqvL l k = true → l = k
  | [], [], _ => rfl
  | x :: l, y :: k, h => by
    simp only [eqvL, Bool.and_eq_true] at h
    rw [eqvA_ok h.1, eqvL_ok h.2]
  | [], _ :: _, h => by simp [eqvL] at h
  | _ :: _, [], h => by simp [eqvL] at h
end
theorem sameO_ok {a : Option AV} {v : AV} (h : sameO a v = true) : a = some v := by
  unfold sameO at h
  split at h
  · rw [eqvA_ok h]
  · cases h
theorem addN_x (x0 : Nat) (p : Nat → Bool) (T : ES) : ∀ nw : List (Nat × AO), (addN x0 p T nw).x = T.x
  | [] => rfl
  | (j, ob) :: r => by
    simp only [addN]
    cases p j with
    | true => simp only [cond_true]; exact addN_x x0 p T r
    | false => simp only [cond_false]; exact addN_x x0 p T r
theorem addN_out (x0 : Nat) (p : Nat → Bool) (T : ES) (B : Nat) (hB : x0 + B ≤ 1000000000) (id : Nat) : ∀ nw : List (Nat × AO), (∀ m ob, (m, ob) ∈ nw → m < B) → (∀ m ob, (m, ob) ∈ nw → p m = true → id ≠ x0 + m) → (addN x0 p T nw).h.get id = T.h.get id
  | [], _, _ => rfl
  | (j, ob) :: r, hb, h => by
    have ih := addN_out x0 p T B hB id r (fun m o hm => hb m o (List.mem_cons_of_mem _ hm)) (fun m o hm => h m o (List.mem_cons_of_mem _ hm))
    have hj := hb j ob (List.mem_cons_self ..)
    simp only [addN]
    cases hp : p j with
    | true =>
      simp only [cond_true]
      rw [Tr.get_put (by omega), if_neg (h j ob (List.mem_cons_self ..) hp)]
      exact ih
    | false => simp only [cond_false]; exact ih
theorem addN_in (x0 : Nat) (p : Nat → Bool) (T : ES) (B : Nat) (hB : x0 + B ≤ 1000000000) {m : Nat} {ob : AO} (hp : p m = true) : ∀ nw : List (Nat × AO), (∀ m ob, (m, ob) ∈ nw → m < B) → (∀ o, (m, o) ∈ nw → o = ob) → (m, ob) ∈ nw → (addN x0 p T nw).h.get (x0 + m) = some ob
  | [], _, _, h => by simp at h
  | (j, o) :: r, hb, hf, h => by
    have hj := hb j o (List.mem_cons_self ..)
    simp only [addN]
    by_cases hjm : j = m
    · subst hjm
      rw [hp]
      simp only [cond_true]
      rw [Tr.get_put (by omega), if_pos rfl, hf o (List.mem_cons_self ..)]
    · have hr : (m, ob) ∈ r := by
        rcases List.mem_cons.1 h with e | e
        · cases e; exact absurd rfl hjm
        · exact e
      have ih := addN_in x0 p T B hB hp r (fun m o hm => hb m o (List.mem_cons_of_mem _ hm)) (fun o ho => hf o (List.mem_cons_of_mem _ ho)) hr
      cases p j with
      | true =>
        simp only [cond_true]
        rw [Tr.get_put (by omega), if_neg (by omega)]
        exact ih
      | false => simp only [cond_false]; exact ih
end Go.Proofs.YtgpgmmkkmoecmaaGreatDoor

/- Closed calls, evaluated: regions that draw their order, whatever order is drawn. Plain lemmas over the model; no program. -/
namespace Go.Proofs.YtgpgmmkkmoecmaaGreatDoor
open Go Go.RowKit

structure Ctx (E : Ev) (call : Nat → List AV → ES → Option (AV × ES)) (ops : Array Oper) (n x0 : Nat) (anc : Array Nat) (S : Nat → DS) (O : Nat → Oc) (tm0 : Tr AV) (T0 : ES) : Prop where
  hn : n ≤ 1000000
  st : StaticP ops anc
  steps : ∀ (k : Nat) (q : Oper), ops[k]? = some q → StepP E call ops n x0 anc k q (S k) (O k) (S (k + 1))
  fx : ∀ j, j ≤ ops.size → Fx ops n anc S O tm0 T0 j
  bound : x0 + ops.size ≤ 1000000000
/-- Which snapshot stands behind the operations D. -/
structure IsT (N : Nat) (O : Nat → Oc) (T0 : ES) (D : Nat → Bool) (T : ES) : Prop where
  some_ : ∀ h, h < N → (O h).k = 3 → D h = true → (∀ h', h' < N → (O h').k = 3 → D h' = true → h' ≤ h) → T = (O h).T
  none_ : (∀ h, h < N → (O h).k = 3 → D h = false) → T = T0
/-- A new block of the region that some snapshot holds. -/
def Fl (N : Nat) (O : Nat → Oc) (anc : Array Nat) (D : Nat → Bool) (m : Nat) : Prop := ∃ h, h < N ∧ (O h).k = 3 ∧ D h = true ∧ ancB anc h m = true
structure InvP (E : Ev) (W : World) (ops : Array Oper) (n x0 : Nat) (anc : Array Nat) (O : Nat → Oc) (tm0 : Tr AV) (T0 : ES) (γ0 : Nm) (g0 : Nat → Option AO) (w0 : World) (D : Nat → Bool) (a : Act) (w : World) (γ : Nm) (T : ES) (g : Nat → Option AO) : Prop where
  isT : IsT ops.size O T0 D T
  Tx : x0 + ops.size ≤ T.x
  new : ∀ m, m < ops.size → (O m).k = 2 → D m = true → ¬ Fl ops.size O anc D m → g (x0 + m) = some (O m).ob
  old : ∀ id, (∀ m, m < ops.size → (O m).k = 2 → D m = true → ¬ Fl ops.size O anc D m → id ≠ x0 + m) → g id = T.h.get id
  nof : ∀ m, m < ops.size → (O m).k = 2 → ¬ Fl ops.size O anc D m → T.h.get (x0 + m) = none
  nam : ∀ m, m < ops.size → (O m).k = 2 → D m = false → γ (x0 + m) = none
  rel : RelG E W γ g T.x w
  goes : GoesG γ0 γ g0 g x0 T.x w0 w
  size : a.tmps.size = n
  dfs : a.defers = []
  tin : ∀ (k : Nat) (q : Oper) (t : Nat), ops[k]? = some q → q.dst = some t → D k = true → conc γ (O k).v = some (a.tmps.getD t undef)
  tout : ∀ t : Nat, (∀ (k : Nat) (q : Oper), ops[k]? = some q → D k = true → q.dst ≠ some t) → conc γ (aev tm0 (.tmp t)) = some (a.tmps.getD t undef)
  closed : ∀ i, i < ops.size → D i = true → ∀ j, j < ops.size → ancB anc i j = true → D j = true
section
variable {E : Ev} {W : World} {call : Nat → List AV → ES → Option (AV × ES)} {ops : Array Oper} {n x0 : Nat} {anc : Array Nat} {S : Nat → DS} {O : Nat → Oc} {tm0 : Tr AV} {T0 : ES} {γ0 γ γ' : Nm} {g0 g g' : Nat → Option AO} {w0 w w' : World} {D : Nat → Bool} {a : Act} {T T' : ES} {i : Nat} {q : Oper}
theorem lt_size {α : Type} {xs : Array α} {j : Nat} {y : α} (h : xs[j]? = some y) : j < xs.size := (Array.getElem?_eq_some_iff.1 h).1
/-- What an operation looks at is as it was when it was evaluated. -/
theorem look_ok (C : Ctx E call ops n x0 anc S O tm0 T0) (I : InvP E W ops n x0 anc O tm0 T0 γ0 g0 w0 D a w γ T g) (hq : ops[i]? = some q) (hi : D i = false) (hanc : ∀ j, j < ops.size → ancB anc i j = true → D j = true) {t : Nat} (ht : t ∈ q.looksAt ops) :
    conc γ (aev (S i).tm (.tmp t)) = some (a.tmps.getD t undef) := by
  have hilt := lt_size hq
  have F := C.fx i (by omega)
  have dist : ∀ (k k' : Nat) (p p' : Oper), ops[k]? = some p → ops[k']? = some p' → p.dst = some t → p'.dst = some t → k = k' := fun k k' p p' hk hk' h1 h2 => by
    rcases Nat.lt_trichotomy k k' with h | h | h
    · rcases (C.st.apart k' k p' p hk' hk h).2 with e | e
      · rw [e] at h2; cases h2
      · exact absurd (h2.trans h1.symm) e
    · exact h
    · rcases (C.st.apart k k' p p' hk hk' h).2 with e | e
      · rw [e] at h1; cases h1
      · exact absurd (h1.trans h2.symm) e
  by_cases hex : ∃ (k : Nat) (p : Oper), ops[k]? = some p ∧ p.dst = some t
  · obtain ⟨k, p, hk, hd⟩ := hex
    have viaOut : k ≥ i → D k = false → conc γ (aev (S i).tm (.tmp t)) = some (a.tmps.getD t undef) := fun hge hDk => by
      rw [F.tmOut t fun k' p' hlt hk' e => by have := dist k' k p' p hk' hk e hd; omega]
      exact I.tout t fun k' p' hk' hD e => by
        have := dist k' k p' p hk' hk e hd
        subst this
        rw [hD] at hDk; cases hDk
    rcases Nat.lt_trichotomy k i with hlt | rfl | hgt
    · rcases (C.st.apart i k q p hq hk hlt).1 with h | h
      · rw [F.tmIn k p t hlt hk hd]
        exact I.tin k p t hk hd (hanc k (lt_size hk) h)
      · exact absurd ht ((Oper.apart_spec h).1 t hd)
    · exact viaOut (Nat.le_refl _) hi
    · refine viaOut (by omega) ?_
      rcases (C.st.apart k i p q hk hq hgt).1 with h | h
      · cases hD : D k with
        | false => rfl
        | true =>
          have := I.closed k (lt_size hk) hD i hilt h
          rw [hi] at this; cases this
      · exact absurd ht ((Oper.apart_spec h).2.2 t hd)
  · rw [F.tmOut t fun k p _ hk e => hex ⟨k, p, hk, e⟩]
    exact I.tout t fun k p hk _ e => hex ⟨k, p, hk, e⟩
theorem want_ok (C : Ctx E call ops n x0 anc S O tm0 T0) (I : InvP E W ops n x0 anc O tm0 T0 γ0 g0 w0 D a w γ T g) (hq : ops[i]? = some q) (hi : D i = false) (hanc : ∀ j, j < ops.size → ancB anc i j = true → D j = true) :
    Region.wanted q (yieldA ops (S i).tm) = Region.wanted q (yielded ops a.tmps) := by
  have F := C.fx i (Nat.le_of_lt (lt_size hq))
  unfold Region.wanted
  cases hg : q.guard with
  | none => rfl
  | some p =>
    obtain ⟨j, want⟩ := p
    simp only
    have : yieldA ops (S i).tm j = yielded ops a.tmps j := by
      unfold yieldA yielded
      cases hd : (ops[j]?).bind (·.dst) with
      | none => rfl
      | some t =>
        simp only [Option.bind_some]
        refine yield_at I.size (look_ok C I hq hi hanc ?_) (F.out t)
        unfold Oper.looksAt
        rw [hg]
        exact List.mem_append_right _ (by simp [hd])
    rw [this]
/-- The operands, for the evaluation; all else as it stands. -/
noncomputable def mixA (q : Oper) (tm : Tr AV) (a : Act) : Operand → AV := open Classical in fun x => if x ∈ q.op.operands then aev tm x else .c (a.eval x)
theorem mix_ok (C : Ctx E call ops n x0 anc S O tm0 T0) (I : InvP E W ops n x0 anc O tm0 T0 γ0 g0 w0 D a w γ T g) (hq : ops[i]? = some q) (hi : D i = false) (hanc : ∀ j, j < ops.size → ancB anc i j = true → D j = true) :
    (∀ x, conc γ (mixA q (S i).tm a x) = some (a.eval x)) ∧ ∀ x ∈ q.op.operands, mixA q (S i).tm a x = aev (S i).tm x := by
  refine ⟨fun x => ?_, fun x hx => by unfold mixA; rw [if_pos hx]⟩
  unfold mixA
  split
  · rename_i hx
    cases x with
    | tmp t =>
      refine look_ok C I hq hi hanc ?_
      unfold Oper.looksAt
      exact List.mem_append_left _ (List.mem_filterMap.2 ⟨.tmp t, by simpa using hx, rfl⟩)
    | const v => rfl
    | global g => rfl
    | func f => rfl
  · rfl
/-- The temporaries behind one operation more. -/
theorem tmps_put (C : Ctx E call ops n x0 anc S O tm0 T0) (I : InvP E W ops n x0 anc O tm0 T0 γ0 g0 w0 D a w γ T g) (hq : ops[i]? = some q) (hx : Ext γ γ') {u : Value} (hu : conc γ' (O i).v = some u) :
    (a.put q.dst u).tmps.size = n ∧ (a.put q.dst u).defers = [] ∧
    (∀ (k : Nat) (p : Oper) (t : Nat), ops[k]? = some p → p.dst = some t → (D k || k == i) = true → conc γ' (O k).v = some ((a.put q.dst u).tmps.getD t undef)) ∧
    (∀ t : Nat, (∀ (k : Nat) (p : Oper), ops[k]? = some p → (D k || k == i) = true → p.dst ≠ some t) → conc γ' (aev tm0 (.tmp t)) = some ((a.put q.dst u).tmps.getD t undef)) := by
  have hput := (C.steps i q hq).1
  have get : ∀ t : Nat, (q.dst = some t → (a.put q.dst u).tmps.getD t undef = u) ∧ (q.dst ≠ some t → (a.put q.dst u).tmps.getD t undef = a.tmps.getD t undef) := fun t => by
    cases hd : q.dst with
    | none => exact ⟨fun e => (by cases e), fun _ => rfl⟩
    | some d =>
      unfold putA at hput
      rw [hd] at hput
      have hlt := blt_lt (bif_some hput).1
      refine ⟨fun e => ?_, fun e => ?_⟩
      · cases e
        simp [Act.put, I.size, hlt]
      · have : d ≠ t := fun h => e (by rw [h])
        simp [Act.put, Array.getElem?_setIfInBounds_ne this]
  refine ⟨?_, ?_, fun k p t hk hd hD => ?_, fun t ht => ?_⟩
  · cases hd : q.dst with
    | none => exact I.size
    | some d => simp [Act.put, I.size]
  · cases hd : q.dst with
    | none => exact I.dfs
    | some d => exact I.dfs
  · by_cases hki : k = i
    · subst hki
      rw [hq] at hk; cases hk
      rw [(get t).1 hd]; exact hu
    · have hDk : D k = true := by simpa [hki] using hD
      have hne : q.dst ≠ some t := fun e => by
        rcases Nat.lt_trichotomy k i with h | h | h
        · rcases (C.st.apart i k q p hq hk h).2 with e1 | e1
          · rw [e1] at e; cases e
          · exact e1 (e.trans hd.symm)
        · exact hki h
        · rcases (C.st.apart k i p q hk hq h).2 with e1 | e1
          · rw [e1] at hd; cases hd
          · exact e1 (hd.trans e.symm)
      rw [(get t).2 hne]
      exact conc_ext hx _ (I.tin k p t hk hd hDk)
  · rw [(get t).2 (ht i q hq (by simp))]
    exact conc_ext hx _ (I.tout t fun k p hk hD => ht k p hk (by simp [hD]))
theorem or_eq {k i : Nat} : (D k || k == i) = true ↔ D k = true ∨ k = i := by simp
theorem fl_or (h3 : (O i).k ≠ 3) {m : Nat} : Fl ops.size O anc (fun j => D j || j == i) m ↔ Fl ops.size O anc D m := by
  constructor
  · rintro ⟨h, a1, a2, a3, a4⟩
    rcases or_eq.1 a3 with a3 | rfl
    · exact ⟨h, a1, a2, a3, a4⟩
    · exact absurd a2 h3
  · rintro ⟨h, a1, a2, a3, a4⟩
    exact ⟨h, a1, a2, or_eq.2 (.inl a3), a4⟩
theorem isT_or (h3 : (O i).k ≠ 3) (hI : IsT ops.size O T0 D T) : IsT ops.size O T0 (fun j => D j || j == i) T := by
  have back : ∀ h, (O h).k = 3 → (D h || h == i) = true → D h = true := fun h hk hd => by
    rcases or_eq.1 hd with hd | rfl
    · exact hd
    · exact absurd hk h3
  refine ⟨fun h a1 a2 a3 a4 => hI.some_ _ a1 a2 (back _ a2 a3) fun h' b1 b2 b3 => a4 h' b1 b2 (or_eq.2 (.inl b3)), fun hno => hI.none_ fun h' b1 b2 => ?_⟩
  have := hno h' b1 b2
  simp only [Bool.or_eq_false_iff] at this
  exact this.1
theorem exists_max (p : Nat → Prop) : ∀ N : Nat, (∃ h, h < N ∧ p h) → ∃ h, h < N ∧ p h ∧ ∀ h', h' < N → p h' → h' ≤ h
  | 0, ⟨h, hh, _⟩ => by omega
  | N + 1, ⟨h, hh, hp⟩ => by
    by_cases hN : p N
    · exact ⟨N, by omega, hN, fun h' a _ => by omega⟩
    · obtain ⟨m, a1, a2, a3⟩ := exists_max p N ⟨h, by
        rcases Nat.lt_or_ge h N with g | g
        · exact g
        · exact absurd (show p N by rw [show N = h by omega]; exact hp) hN, hp⟩
      exact ⟨m, by omega, a2, fun h' b1 b2 => by
        rcases Nat.lt_or_ge h' N with g | g
        · exact a3 h' g b2
        · exact absurd (show p N by rw [show N = h' by omega]; exact b2) hN⟩
/-- The snapshot at p, where the operations D hold just what comes ahead of p. -/
theorem T_eq (C : Ctx E call ops n x0 anc S O tm0 T0) (h : IsT ops.size O T0 D T) {p : Nat} (hp : p ≤ ops.size) (h1 : ∀ h, h < p → (O h).k = 3 → D h = true) (h2 : ∀ h, h < ops.size → (O h).k = 3 → D h = true → h < p) : T = (S p).T := by
  have F := C.fx p hp
  by_cases hex : ∃ m, m < ops.size ∧ ((O m).k = 3 ∧ D m = true)
  · obtain ⟨m, a1, ⟨a2, a3⟩, a4⟩ := exists_max _ _ hex
    have hmp := h2 m a1 a2 a3
    rw [h.some_ m a1 a2 a3 fun h' b1 b2 b3 => a4 h' b1 ⟨b2, b3⟩]
    refine (F.TIn m hmp a2 fun h' b1 b2 b3 => ?_).symm
    have := a4 h' (by omega) ⟨b3, h1 h' b2 b3⟩
    omega
  · rw [h.none_ fun m b1 b2 => Bool.eq_false_iff.2 fun b3 => hex ⟨m, b1, b2, b3⟩]
    exact (F.TOut fun m b1 b2 => hex ⟨m, by omega, b2, h1 m b1 b2⟩).symm
theorem heavy_anc (C : Ctx E call ops n x0 anc S O tm0 T0) {h h' : Nat} (hh : h' < ops.size) (h3 : (O h').k = 3) (hlt : h < h') (h4 : (O h).k = 3) : ancB anc h' h = true := by
  have hq : ops[h']? = some (ops[h']'hh) := Array.getElem?_eq_getElem hh
  have hmem := (C.fx h' (by omega)).hs h hlt h4
  rcases (C.steps h' _ hq).2 with g | g | g | g
  · rw [g.1] at h3; cases h3
  · rw [g.1] at h3; cases h3
  · rw [g.1] at h3; cases h3
  · exact g.2.2.2.1 h _ hmem
theorem T_sub (I : InvP E W ops n x0 anc O tm0 T0 γ0 g0 w0 D a w γ T g) {id : Nat} {o : AO} (h : T.h.get id = some o) : g id = some o := by
  rw [I.old id fun m a1 a2 a3 a4 e => by
    have := I.nof m a1 a2 a4
    rw [← e, h] at this; cases this]
  exact h
/-- What the operation saw is there. -/
theorem V_sub (C : Ctx E call ops n x0 anc S O tm0 T0) (I : InvP E W ops n x0 anc O tm0 T0 γ0 g0 w0 D a w γ T g) (hi : i < ops.size) (hanc : ∀ j, j < ops.size → ancB anc i j = true → D j = true) (hT : T = (S i).T) (hall : ∀ h, h < i → (O h).k = 3 → D h = true) (hlt : ∀ h, h < ops.size → (O h).k = 3 → D h = true → h < i) {id : Nat} :
    ((∃ m, m < ops.size ∧ (O m).k = 2 ∧ ancB anc i m = true ∧ ¬ Fl ops.size O anc D m ∧ id = x0 + m) ∧ (addN x0 (ancB anc i) (S i).T (S i).nw).h.get id = g id) ∨
    ((¬ ∃ m, m < ops.size ∧ (O m).k = 2 ∧ ancB anc i m = true ∧ ¬ Fl ops.size O anc D m ∧ id = x0 + m) ∧ (addN x0 (ancB anc i) (S i).T (S i).nw).h.get id = T.h.get id) := by
  have F := C.fx i (by omega)
  have hb : ∀ m ob, (m, ob) ∈ (S i).nw → m < ops.size := fun m ob h => by have := ((F.nw m ob).1 h).1; omega
  have nwfl : ∀ m ob, (m, ob) ∈ (S i).nw → ¬ Fl ops.size O anc D m := fun m ob h => by
    obtain ⟨_, _, _, h4⟩ := (F.nw m ob).1 h
    rintro ⟨h', b1, b2, b3, b4⟩
    rw [h4 h' (hlt h' b1 b2 b3) b2] at b4; cases b4
  by_cases hex : ∃ m, m < ops.size ∧ (O m).k = 2 ∧ ancB anc i m = true ∧ ¬ Fl ops.size O anc D m ∧ id = x0 + m
  · refine .inl ⟨hex, ?_⟩
    obtain ⟨m, a1, a2, a3, a4, rfl⟩ := hex
    have hmi : m < i := by
      have hq : ops[i]? = some (ops[i]'hi) := Array.getElem?_eq_getElem hi
      exact (C.st.anc_ i _ hq m a1 a3).1
    have hmem : (m, (O m).ob) ∈ (S i).nw := (F.nw m _).2 ⟨hmi, a2, rfl, fun h b1 b2 => Bool.eq_false_iff.2 fun b3 => a4 ⟨h, by omega, b2, hall h b1 b2, b3⟩⟩
    rw [addN_in x0 _ _ ops.size C.bound a3 _ hb (fun o ho => ((F.nw m o).1 ho).2.2.1) hmem]
    exact (I.new m a1 a2 (hanc m a1 a3) a4).symm
  · refine .inr ⟨hex, ?_⟩
    rw [hT]
    exact addN_out x0 _ _ ops.size C.bound id _ hb fun m ob hm hp e => hex ⟨m, hb m ob hm, ((F.nw m ob).1 hm).2.1, hp, nwfl m ob hm, e⟩
/-- An operation that leaves memory as it is. -/
theorem step_light (C : Ctx E call ops n x0 anc S O tm0 T0) (I : InvP E W ops n x0 anc O tm0 T0 γ0 g0 w0 D a w γ T g) (hq : ops[i]? = some q) (hanc : ∀ j, j < ops.size → ancB anc i j = true → D j = true) (h2 : (O i).k ≠ 2) (h3 : (O i).k ≠ 3) {u : Value} (hu : conc γ (O i).v = some u) :
    InvP E W ops n x0 anc O tm0 T0 γ0 g0 w0 (fun j => D j || j == i) (a.put q.dst u) w γ T g := by
  obtain ⟨t1, t2, t3, t4⟩ := tmps_put C I hq (Ext.refl γ) hu
  have ne2 : ∀ m, (O m).k = 2 → (D m || m == i) = true → D m = true := fun m hk hd => by
    rcases or_eq.1 hd with hd | rfl
    · exact hd
    · exact absurd hk h2
  refine ⟨isT_or h3 I.isT, I.Tx, fun m b1 b2 b3 b4 => I.new m b1 b2 (ne2 m b2 b3) fun h => b4 ((fl_or h3).2 h), fun id h => I.old id fun m b1 b2 b3 b4 => h m b1 b2 (or_eq.2 (.inl b3)) fun h => b4 ((fl_or h3).1 h),
    fun m b1 b2 b3 => I.nof m b1 b2 fun h => b3 ((fl_or h3).2 h), fun m b1 b2 b3 => I.nam m b1 b2 (by simp only [Bool.or_eq_false_iff] at b3; exact b3.1), I.rel, I.goes, t1, t2, t3, t4, fun j hj hD k hk ha => ?_⟩
  rcases or_eq.1 hD with hD | rfl
  · exact or_eq.2 (.inl (I.closed j hj hD k hk ha))
  · exact or_eq.2 (.inl (hanc k hk ha))
/-- A new block. -/
theorem step_new (C : Ctx E call ops n x0 anc S O tm0 T0) (I : InvP E W ops n x0 anc O tm0 T0 γ0 g0 w0 D a w γ T g) (hq : ops[i]? = some q) (hi : D i = false) (hanc : ∀ j, j < ops.size → ancB anc i j = true → D j = true) (h2 : (O i).k = 2) {u : Value} {k : Nat} {obj : Obj}
    (hu : conc (nameB γ (x0 + i) ⟨w.heap.size, 0, k, none⟩) (O i).v = some u) (hob : (O i).ob.at_ E.P (nameB γ (x0 + i) ⟨w.heap.size, 0, k, none⟩) ⟨w.heap.size, 0, k, none⟩ (w.alloc obj)) :
    InvP E W ops n x0 anc O tm0 T0 γ0 g0 w0 (fun j => D j || j == i) (a.put q.dst u) (w.alloc obj) (nameB γ (x0 + i) ⟨w.heap.size, 0, k, none⟩) T (fun j => if j = x0 + i then some (O i).ob else g j) := by
  have hilt := lt_size hq
  have h3 : (O i).k ≠ 3 := by rw [h2]; decide
  have hn := I.nam i hilt h2 hi
  have hx := nameB_ext hn (⟨w.heap.size, 0, k, none⟩ : Bk)
  obtain ⟨t1, t2, t3, t4⟩ := tmps_put C I hq hx hu
  have hTx := I.Tx
  obtain ⟨r1, _⟩ := new_at I.rel (i := x0 + i) (bk := ⟨w.heap.size, 0, k, none⟩) (ob := (O i).ob) (w' := w.alloc obj) (g' := fun j => if j = x0 + i then some (O i).ob else g j) (by omega) hn rfl (by simp) (fun k hk => heapK_old hk) rfl rfl rfl hob (fun j => rfl)
  have G := I.goes
  have nfi : ¬ Fl ops.size O anc (fun j => D j || j == i) i := fun h => by
    obtain ⟨h', b1, b2, b3, b4⟩ := (fl_or h3).1 h
    have := I.closed h' b1 b3 i hilt b4
    rw [hi] at this; cases this
  refine ⟨isT_or h3 I.isT, I.Tx, fun m b1 b2 b3 b4 => ?_, fun id h => ?_, fun m b1 b2 b3 => I.nof m b1 b2 fun h => b3 ((fl_or h3).2 h), fun m b1 b2 b3 => ?_, r1, ⟨G.ext.trans hx, fun j hj hn => ?_, G.nx, by have := G.size; simp; omega, fun j hj hn => ?_, fun j hj hn => ?_, fun j oj bj hj hb => ?_⟩, t1, t2, t3, t4, fun j hj hD k hk ha => ?_⟩
  · rcases or_eq.1 b3 with b3 | rfl
    · have hne : m ≠ i := fun e => by rw [e, hi] at b3; cases b3
      show (if x0 + m = x0 + i then some (O i).ob else g (x0 + m)) = _
      rw [if_neg (by omega)]
      exact I.new m b1 b2 b3 fun h => b4 ((fl_or h3).2 h)
    · show (if x0 + m = x0 + m then some (O m).ob else g (x0 + m)) = _
      rw [if_pos rfl]
  · have hne := h i hilt h2 (or_eq.2 (.inr rfl)) nfi
    show (if id = x0 + i then some (O i).ob else g id) = _
    rw [if_neg hne]
    exact I.old id fun m b1 b2 b3 b4 => h m b1 b2 (or_eq.2 (.inl b3)) fun h => b4 ((fl_or h3).1 h)
  · simp only [Bool.or_eq_false_iff, beq_eq_false_iff_ne] at b3
    unfold nameB
    rw [if_neg (by omega)]
    exact I.nam m b1 b2 b3.1
  · unfold nameB
    rw [if_neg (by omega)]
    exact G.keep j hj hn
  · rw [← G.frame j hj hn]
    exact heapK_old (by have := G.size; omega)
  · show (if j = x0 + i then some (O i).ob else g j) = none
    rw [if_neg (by omega)]
    exact G.dom j hj hn
  · have hj' : (if j = x0 + i then some (O i).ob else g j) = some oj := hj
    split at hj'
    · rename_i e
      subst e
      rw [nameB_same] at hb; cases hb
      exact .inl G.size
    · obtain ⟨bk, e1, _⟩ := I.rel.has j oj hj'
      rw [hx _ _ e1] at hb; cases hb
      exact G.from_ j oj _ hj' e1
  · rcases or_eq.1 hD with hD | rfl
    · exact or_eq.2 (.inl (I.closed j hj hD k hk ha))
    · exact or_eq.2 (.inl (hanc k hk ha))
/-- A call, or what writes. -/
theorem step_heavy (C : Ctx E call ops n x0 anc S O tm0 T0) (I : InvP E W ops n x0 anc O tm0 T0 γ0 g0 w0 D a w γ T g) (hq : ops[i]? = some q) (hi : D i = false) (hanc : ∀ j, j < ops.size → ancB anc i j = true → D j = true) (h3 : (O i).k = 3)
    (hT : T = (S i).T) (hall : ∀ h, h < i → (O h).k = 3 → D h = true) (hlt : ∀ h, h < ops.size → (O h).k = 3 → D h = true → h < i) {u : Value}
    (hu : conc γ' (O i).v = some u) (hr : Rel E W γ' (O i).T w') (hg : Goes γ γ' (addN x0 (ancB anc i) (S i).T (S i).nw) (O i).T w w') :
    ∃ g', InvP E W ops n x0 anc O tm0 T0 γ0 g0 w0 (fun j => D j || j == i) (a.put q.dst u) w' γ' (O i).T g' := by
  classical
  have hilt := lt_size hq
  obtain ⟨t1, t2, t3, t4⟩ := tmps_put C I hq hg.ext hu
  have hTx := I.Tx
  have hVx : (addN x0 (ancB anc i) (S i).T (S i).nw).x = T.x := by rw [addN_x, hT]
  have flD : ∀ {m}, Fl ops.size O anc D m → Fl ops.size O anc (fun j => D j || j == i) m := fun ⟨h, b1, b2, b3, b4⟩ => ⟨h, b1, b2, or_eq.2 (.inl b3), b4⟩
  have V := fun id => V_sub C I hilt hanc hT hall hlt (id := id)
  have flI : ∀ {m}, ancB anc i m = true → Fl ops.size O anc (fun j => D j || j == i) m := fun h => ⟨i, hilt, h3, or_eq.2 (.inr rfl), h⟩
  let X : Nat → Prop := fun id => ∃ m, m < ops.size ∧ (O m).k = 2 ∧ D m = true ∧ ¬ Fl ops.size O anc (fun j => D j || j == i) m ∧ id = x0 + m
  let g' : Nat → Option AO := fun id => if X id then g id else (O i).T.h.get id
  have sub : ∀ id o, (addN x0 (ancB anc i) (S i).T (S i).nw).h.get id = some o → g id = some o := fun id o h => by
    rcases V id with ⟨_, e⟩ | ⟨_, e⟩
    · rw [← e]; exact h
    · rw [e] at h; exact T_sub I h
  obtain ⟨r1, r2⟩ := frame_step (g := g) (gV := (addN x0 (ancB anc i) (S i).T (S i).nw).h.get) (gT := (O i).T.h.get) (g' := g') (x := T.x) (x' := (O i).T.x) I.rel sub hr (by rw [← hVx]; exact hg) (fun id o h1 h2 => by
    have hX : X id := by
      rcases V id with ⟨_, e⟩ | ⟨hno, e⟩
      · rw [e, h1] at h2; cases h2
      · rw [e] at h2
        refine Classical.byContradiction fun hX => ?_
        have : g id = T.h.get id := I.old id fun m b1 b2 b3 b4 e' => hX ⟨m, b1, b2, b3, fun hf => by
          obtain ⟨h, c1, c2, c3, c4⟩ := hf
          rcases or_eq.1 c3 with c3 | rfl
          · exact b4 ⟨h, c1, c2, c3, c4⟩
          · exact hno ⟨m, b1, b2, c4, b4, e'⟩, e'⟩
        rw [h1, h2] at this; cases this
    show (if X id then g id else _) = _
    rw [if_pos hX]; exact h1) (fun id h => by
    show (if X id then g id else _) = _
    refine if_neg fun hX => ?_
    obtain ⟨m, b1, b2, b3, b4, rfl⟩ := hX
    have hgm := I.new m b1 b2 b3 fun hf => b4 (flD hf)
    rcases h with h | h
    · rw [hgm] at h; cases h
    · rcases V (x0 + m) with ⟨⟨m', c1, c2, c3, c4, c5⟩, _⟩ | ⟨_, e⟩
      · obtain rfl : m = m' := by omega
        exact b4 (flI c3)
      · rw [e] at h
        exact h (I.nof m b1 b2 fun hf => b4 (flD hf)))
  have noT : ∀ m, m < ops.size → (O m).k = 2 → ¬ Fl ops.size O anc (fun j => D j || j == i) m → (O i).T.h.get (x0 + m) = none := fun m b1 b2 b3 => by
    refine hg.dom (x0 + m) (by rw [hVx]; omega) ?_
    rcases V (x0 + m) with ⟨⟨m', c1, c2, c3, c4, c5⟩, _⟩ | ⟨_, e⟩
    · obtain rfl : m = m' := by omega
      exact absurd (flI c3) b3
    · rw [e]; exact I.nof m b1 b2 fun hf => b3 (flD hf)
  refine ⟨g', ⟨fun h b1 b2 b3 b4 => ?_, fun hno => ?_⟩, by have := hg.nx; omega, fun m b1 b2 b3 b4 => ?_, fun id h => ?_, noT, fun m b1 b2 b3 => ?_, r1, I.goes.trans r2, t1, t2, t3, t4, fun j hj hD k hk ha => ?_⟩
  · have hih := b4 i hilt h3 (or_eq.2 (.inr rfl))
    rcases or_eq.1 b3 with b3 | rfl
    · have := hlt h b1 b2 b3; omega
    · rfl
  · have := hno i hilt h3
    simp at this
  · rcases or_eq.1 b3 with b3 | rfl
    · show (if X (x0 + m) then g (x0 + m) else _) = _
      rw [if_pos ⟨m, b1, b2, b3, b4, rfl⟩]
      exact I.new m b1 b2 b3 fun hf => b4 (flD hf)
    · rw [h3] at b2; cases b2
  · show (if X id then g id else _) = _
    refine if_neg ?_
    rintro ⟨m, b1, b2, b3, b4, e⟩
    exact h m b1 b2 (or_eq.2 (.inl b3)) b4 e
  · simp only [Bool.or_eq_false_iff] at b3
    exact hg.keep (x0 + m) (by rw [hVx]; omega) (I.nam m b1 b2 b3.1)
  · rcases or_eq.1 hD with hD | rfl
    · exact or_eq.2 (.inl (I.closed j hj hD k hk ha))
    · exact or_eq.2 (.inl (hanc k hk ha))
/-- One operation that may come up now. -/
theorem any_step (hP : Plain E.P) (hC : CallS E W call) (C : Ctx E call ops n x0 anc S O tm0 T0) {Q : Exit → Act → World → Prop} {K : Act → World → Prop} (I : InvP E W ops n x0 anc O tm0 T0 γ0 g0 w0 D a w γ T g) (hq : ops[i]? = some q) (hi : D i = false) (hanc : ∀ j, j < ops.size → ancB anc i j = true → D j = true)
    (hK : ∀ a' w' γ' T' g', InvP E W ops n x0 anc O tm0 T0 γ0 g0 w0 (fun j => D j || j == i) a' w' γ' T' g' → K a' w') : wpOp E.P ops Q i K a w := by
  have hilt := lt_size hq
  have F := C.fx i (by omega)
  have hw := want_ok C I hq hi hanc
  obtain ⟨hm1, hm2⟩ := mix_ok C I hq hi hanc
  unfold wpOp
  simp only [hq]
  have relT : Rel E W γ T w := I.rel.sub fun id o h => T_sub I h
  -- the heavy ones that have come up come ahead, or some behind has
  have later : (O i).k = 3 → ∀ h, h < ops.size → (O h).k = 3 → D h = true → h < i := fun h3 h b1 b2 b3 => by
    rcases Nat.lt_trichotomy h i with g | g | g
    · exact g
    · subst g; rw [hi] at b3; cases b3
    · have := I.closed h b1 b3 i hilt (heavy_anc C b1 b2 g h3)
      rw [hi] at this; cases this
  rcases (C.steps i q hq).2 with g | g | g | g
  · obtain ⟨k0, hp, _⟩ := g
    rcases hp with ⟨hoff, hv⟩ | ⟨hon, hv⟩
    · rw [hw] at hoff
      rw [if_neg (by rw [hoff]; decide)]
      exact hK _ _ _ _ _ (step_light C I hq hanc (by rw [k0]; decide) (by rw [k0]; decide) (u := undef) (by rw [hv]; rfl))
    · rw [hw] at hon
      rw [if_pos hon]
      rw [← evPure_congr (E := E) hm2] at hv
      obtain ⟨u, h1, h2⟩ := pure_ok I.rel.glob hm1 (o := q) hv w
      refine .inl ?_
      unfold Oper.wp
      rw [h1]
      exact hK _ _ _ _ _ (step_light C I hq hanc (by rw [k0]; decide) (by rw [k0]; decide) h2)
  · obtain ⟨k1, hon, hv, hhs, _⟩ := g
    rw [hw] at hon
    rw [if_pos hon]
    have fin : ∀ V : ES, V.x = T.x → (∀ id o, V.h.get id = some o → g id = some o) → evLoad E V (aev (S i).tm) q.op = some (O i).v → q.wp E.P a w K Q := fun V hVx hsub he => by
      have relV : Rel E W γ V w := by
        show RelG E W γ V.h.get V.x w
        rw [hVx]; exact I.rel.sub hsub
      rw [← evLoad_congr hm2] at he
      obtain ⟨u, h1, h2⟩ := load_ok relV hm1 he
      unfold Oper.wp
      rw [h1]
      exact hK _ _ _ _ _ (step_light C I hq hanc (by rw [k1]; decide) (by rw [k1]; decide) h2)
    refine .inl ?_
    by_cases hB : ∃ h, h < ops.size ∧ ((O h).k = 3 ∧ D h = true) ∧ i < h
    · obtain ⟨h0, a1, a2, a3⟩ := hB
      obtain ⟨h, b1, ⟨b2, b3⟩, b4⟩ := exists_max (fun h => (O h).k = 3 ∧ D h = true) ops.size ⟨h0, a1, a2⟩
      have hih : i < h := by have := b4 h0 a1 a2; omega
      have hT := I.isT.some_ h b1 b2 b3 fun h' c1 c2 c3 => b4 h' c1 ⟨c2, c3⟩
      have hqh : ops[h]? = some (ops[h]'b1) := Array.getElem?_eq_getElem b1
      have hmem := (C.fx h (by omega)).ld i q hih k1 hq
      have hs : ancB anc h i = true ∨ sameO (evLoad E (O h).T (aev (S i).tm) q.op) (O i).v = true := by
        rcases (C.steps h _ hqh).2 with g | g | g | g
        · rw [g.1] at b2; cases b2
        · rw [g.1] at b2; cases b2
        · rw [g.1] at b2; cases b2
        · exact g.2.2.2.2.1 _ _ _ _ hmem
      rcases hs with hs | hs
      · have := I.closed h b1 b3 i hilt hs
        rw [hi] at this; cases this
      · exact fin (O h).T (by rw [hT]) (fun id o h => T_sub I (by rw [hT]; exact h)) (sameO_ok hs)
    · have hlt : ∀ h, h < ops.size → (O h).k = 3 → D h = true → h < i := fun h b1 b2 b3 => by
        rcases Nat.lt_trichotomy h i with g | g | g
        · exact g
        · subst g; rw [hi] at b3; cases b3
        · exact absurd ⟨h, b1, ⟨b2, b3⟩, g⟩ hB
      by_cases hCc : ∃ h, h < i ∧ ((O h).k = 3 ∧ D h = false)
      · -- the least such
        obtain ⟨h, b1, ⟨b2, b3⟩, b4⟩ : ∃ h, h < i ∧ ((O h).k = 3 ∧ D h = false) ∧ ∀ h', h' < h → (O h').k = 3 → D h' = true := by
          obtain ⟨h, hh⟩ := hCc
          induction h using Nat.strongRecOn with
          | _ h ih =>
            by_cases hle : ∃ h', h' < h ∧ ((O h').k = 3 ∧ D h' = false)
            · obtain ⟨h', c1, c2⟩ := hle
              exact ih h' c1 ⟨by omega, c2⟩
            · refine ⟨h, hh.1, hh.2, fun h' c1 c2 => ?_⟩
              cases hD : D h' with
              | true => rfl
              | false => exact absurd ⟨h', c1, c2, hD⟩ hle
        have hT := T_eq C I.isT (p := h) (by omega) b4 fun h' c1 c2 c3 => by
          rcases Nat.lt_trichotomy h' h with g | g | g
          · exact g
          · subst g; rw [b3] at c3; cases c3
          · have := I.closed h' c1 c3 h (by omega) (heavy_anc C c1 c2 g b2)
            rw [b3] at this; cases this
        rcases hhs h (S h).T (F.hs h b1 b2) with hs | hs
        · have := hanc h (by omega) hs
          rw [b3] at this; cases this
        · exact fin (S h).T (by rw [hT]) (fun id o h => T_sub I (by rw [hT]; exact h)) (sameO_ok hs)
      · have hall : ∀ h, h < i → (O h).k = 3 → D h = true := fun h b1 b2 => by
          cases hD : D h with
          | true => rfl
          | false => exact absurd ⟨h, b1, b2, hD⟩ hCc
        have hT := T_eq C I.isT (p := i) (by omega) hall hlt
        exact fin _ (by rw [addN_x, hT]) (fun id o h => by
          rcases V_sub C I hilt hanc hT hall hlt (id := id) with ⟨_, e⟩ | ⟨_, e⟩
          · rw [← e]; exact h
          · rw [e] at h; exact T_sub I h) hv
  · obtain ⟨k2, hon, hv, _⟩ := g
    rw [hw] at hon
    rw [if_pos hon]
    rw [← evNew_congr (E := E) hm2] at hv
    obtain ⟨hown, u, obj, k, h1, h2⟩ := new_ok relT hm1 hv
    obtain ⟨h3, h4⟩ := h2 _ (nameB_ext (I.nam i hilt k2 hi) ⟨w.heap.size, 0, k, none⟩) nameB_same
    refine .inl ?_
    unfold Oper.wp
    rw [h1]
    exact hK _ _ _ _ _ (step_new C I hq hi hanc k2 h3 (h4 _ (heapK_new)))
  · obtain ⟨k3, hon, hv, hhs, _⟩ := g
    rw [hw] at hon
    rw [if_pos hon]
    have hlt := later k3
    have hall : ∀ h, h < i → (O h).k = 3 → D h = true := fun h b1 b2 => hanc h (by omega) (hhs h _ (F.hs h b1 b2))
    have hT := T_eq C I.isT (p := i) (by omega) hall hlt
    have relV : Rel E W γ (addN x0 (ancB anc i) (S i).T (S i).nw) w := by
      have hx : (addN x0 (ancB anc i) (S i).T (S i).nw).x = T.x := by rw [addN_x, hT]
      show RelG E W γ (addN x0 (ancB anc i) (S i).T (S i).nw).h.get (addN x0 (ancB anc i) (S i).T (S i).nw).x w
      rw [hx]
      refine I.rel.sub fun id o h => ?_
      rcases V_sub C I hilt hanc hT hall hlt (id := id) with ⟨_, e⟩ | ⟨_, e⟩
      · rw [← e]; exact h
      · rw [e] at h; exact T_sub I h
    rw [← execA_congr hm2] at hv
    refine .inl (exec_ok hP hC relV hm1 hv fun γ' u w' h1 h2 h3 => ?_)
    obtain ⟨g', I'⟩ := step_heavy C I hq hi hanc k3 hT hall hlt h1 h2 h3
    exact hK _ _ _ _ _ I'
/-- All of them, in whatever order. -/
theorem any_all (hP : Plain E.P) (hC : CallS E W call) (C : Ctx E call ops n x0 anc S O tm0 T0) {Q : Exit → Act → World → Prop}
    (hQ : ∀ a' w' γ' T' g' D', (∀ j, j < ops.size → D' j = true) → InvP E W ops n x0 anc O tm0 T0 γ0 g0 w0 D' a' w' γ' T' g' → Q .normal a' w') :
    ∀ (f : Nat) (listed : Array Bool) (D : Nat → Bool) (a : Act) (w : World) (γ : Nm) (T : ES) (g : Nat → Option AO), listed.size = ops.size → (∀ j, j < ops.size → listed.getD j false = D j) → ((List.range ops.size).filter fun j => !D j).length ≤ f → InvP E W ops n x0 anc O tm0 T0 γ0 g0 w0 D a w γ T g → wpAny E.P .any ops Q f listed a w := by
  have done : ∀ (listed : Array Bool) (D : Nat → Bool), listed.size = ops.size → (∀ j, j < ops.size → listed.getD j false = D j) → Region.ready .any ops listed = [] → ∀ j, j < ops.size → D j = true := fun listed D hsz hl hr j => by
    induction j using Nat.strongRecOn with
    | _ j ih =>
      intro hj
      cases hD : D j with
      | true => rfl
      | false =>
        have hqj : ops[j]? = some (ops[j]'hj) := Array.getElem?_eq_getElem hj
        have : j ∈ Region.ready .any ops listed := mem_ready.2 ⟨by
          have := hl j hj
          rw [hD] at this
          have hlt : j < listed.size := by omega
          simpa [hlt] using this, _, hqj, fun e he hb => by
          have h1 := (C.st.edge j _ hqj e he hb).1
          rw [hl e.on (by omega)]
          exact ih e.on h1 (by omega)⟩
        rw [hr] at this; cases this
  intro f
  induction f with
  | zero =>
    intro listed D a w γ T g hsz hl hf I
    have hall : ∀ j, j < ops.size → D j = true := fun j hj => by
      cases hD : D j with
      | true => rfl
      | false =>
        have : j ∈ (List.range ops.size).filter fun j => !D j := List.mem_filter.2 ⟨List.mem_range.2 hj, by simp [hD]⟩
        rw [List.eq_nil_of_length_eq_zero (Nat.le_zero.1 hf)] at this
        cases this
    refine ⟨?_, hQ a w γ T g D hall I⟩
    refine List.eq_nil_iff_forall_not_mem.2 fun i hi => ?_
    obtain ⟨h1, o, h2, _⟩ := mem_ready.1 hi
    have hlt := lt_size h2
    have h3 := hl i hlt
    rw [hall i hlt] at h3
    have hlt' : i < listed.size := by omega
    simp [hlt'] at h1 h3
    rw [h3] at h1; cases h1
  | succ f ih =>
    intro listed D a w γ T g hsz hl hf I
    refine ⟨fun hr => hQ a w γ T g D (done listed D hsz hl hr) I, fun i hi => ?_⟩
    obtain ⟨h1, o, h2, h3⟩ := mem_ready.1 hi
    have hlt := lt_size h2
    have hD : D i = false := by
      have h4 := hl i hlt
      have hlt' : i < listed.size := by omega
      simp [hlt'] at h1 h4
      rw [← h4, h1]
    have hanc : ∀ j, j < ops.size → ancB anc i j = true → D j = true := fun j hj ha => by
      obtain ⟨_, e, he, hb, hor⟩ := C.st.anc_ i o h2 j hj ha
      have hon := (C.st.edge i o h2 e he hb).1
      have hDe : D e.on = true := by rw [← hl e.on (by omega)]; exact h3 e he hb
      rcases hor with rfl | hor
      · exact hDe
      · exact I.closed e.on (by omega) hDe j hj hor
    refine any_step hP hC C I h2 hD hanc fun a' w' γ' T' g' I' => ih (listed.setIfInBounds i true) _ a' w' γ' T' g' (by simpa using hsz) (fun j hj => ?_) ?_ I'
    · by_cases hji : j = i
      · subst hji
        have : j < listed.size := by omega
        simp [this]
      · have := hl j hj
        simp only [Array.getD_eq_getD_getElem?] at this ⊢
        rw [Array.getElem?_setIfInBounds_ne (Ne.symm hji), this]
        simp [hji]
    · have hle : ((List.range ops.size).filter fun j => !(D j || j == i)).length < ((List.range ops.size).filter fun j => !D j).length := by
        have e : ((List.range ops.size).filter fun j => !(D j || j == i)) = ((List.range ops.size).filter fun j => !D j).filter fun j => !(j == i) := by
          rw [List.filter_filter]
          apply List.filter_congr
          intro x _
          cases D x <;> simp
        rw [e]
        have hmem : i ∈ (List.range ops.size).filter fun j => !D j := List.mem_filter.2 ⟨List.mem_range.2 hlt, by simp [hD]⟩
        exact List.length_filter_lt_length_iff_exists.2 ⟨i, hmem, by simp⟩
      omega
/-- A region that draws its order. -/
theorem region_ok {n : Nat} {st st' : ES} {tm tm' : Tr AV} (hP : Plain E.P) (hm : E.P.follows .mixedOrders = true) (hC : CallS E W call) {Q : Exit → Act → World → Prop} {id : Nat} (he : regionA E call ops n tm st = some (tm', st')) (h : Rel E W γ st w) (hf : FrR n γ tm a)
    (hQ : ∀ γ' a' w', Rel E W γ' st' w' → FrR n γ' tm' a' → Goes γ γ' st st' w w' → Q .normal a' w') : (Code.region id ops true).wp E.P Q a w := by
  unfold regionA at he
  obtain ⟨hb, he⟩ := bif_some he
  simp only [Bool.and_eq_true] at hb
  have hst := static_ok hb.1
  have hbound := ble_le hb.2
  obtain ⟨S, O, e1, e2, e3, e4⟩ := draw_steps E call ops n st.x (Region.before ops) ops.toList 0 ⟨tm, ⟨st.h, st.x + ops.size⟩, [], [], []⟩ tm' st' he
  have hsteps : ∀ (k : Nat) (q : Oper), ops[k]? = some q → StepP E call ops n st.x (Region.before ops) k q (S k) (O k) (S (k + 1)) := fun k q hq => by
    have := e2 k q (by simpa using hq)
    simpa using this
  have C : Ctx E call ops n st.x (Region.before ops) S O tm ⟨st.h, st.x + ops.size⟩ := ⟨hf.small, hst, hsteps, fun j hj => fx_ok hf.small hst e1 hf.out hsteps j hj, hbound⟩
  have hlen : 0 + ops.toList.length = ops.size := by simp
  rw [hlen] at e3 e4
  refine wp_region_any hm ?_
  refine any_all hP hC C (γ0 := γ) (g0 := st.h.get) (w0 := { w with drawn := w.drawn + 1 }) (fun a' w' γ' T' g' D' hall I => ?_) ops.size (Array.replicate ops.size false) (fun _ => false) a { w with drawn := w.drawn + 1 } γ ⟨st.h, st.x + ops.size⟩ st.h.get (by simp) (fun j hj => by simp only [Array.getD_eq_getD_getElem?, Array.getElem?_replicate]; split <;> rfl) (Nat.le_trans (List.length_filter_le _ _) (by simp)) ?_
  · have F := C.fx ops.size (Nat.le_refl _)
    have hT := T_eq C I.isT (p := ops.size) (Nat.le_refl _) (fun h b1 b2 => hall h b1) (fun h b1 _ _ => b1)
    have hb : ∀ m ob, (m, ob) ∈ (S ops.size).nw → m < ops.size := fun m ob h => ((F.nw m ob).1 h).1
    have hget : ∀ id, st'.h.get id = g' id := fun id => by
      rw [e4]
      by_cases hex : ∃ m, m < ops.size ∧ (O m).k = 2 ∧ ¬ Fl ops.size O (Region.before ops) D' m ∧ id = st.x + m
      · obtain ⟨m, a1, a2, a3, rfl⟩ := hex
        rw [addN_in st.x _ _ ops.size hbound rfl _ hb (fun o ho => ((F.nw m o).1 ho).2.2.1) ((F.nw m _).2 ⟨a1, a2, rfl, fun h b1 b2 => Bool.eq_false_iff.2 fun b3 => a3 ⟨h, b1, b2, hall h b1, b3⟩⟩)]
        exact (I.new m a1 a2 (hall m a1) a3).symm
      · rw [addN_out st.x _ _ ops.size hbound id _ hb fun m ob hm _ e => hex ⟨m, hb m ob hm, ((F.nw m ob).1 hm).2.1, (fun hfl => by
          obtain ⟨h, b1, b2, b3, b4⟩ := hfl
          rw [((F.nw m ob).1 hm).2.2.2 h b1 b2] at b4; cases b4), e⟩]
        rw [I.old id fun m b1 b2 b3 b4 e => hex ⟨m, b1, b2, b4, e⟩, hT]
    have hx : st'.x = T'.x := by rw [e4, addN_x, hT]
    have hfun : st'.h.get = g' := funext hget
    refine hQ γ' a' w' ?_ ⟨I.size, hf.small, I.dfs, fun t => ?_, fun t ht => by rw [e3]; exact F.out t ht⟩ ?_
    · show RelG E W γ' st'.h.get st'.x w'
      rw [hfun, hx]; exact I.rel
    · rw [e3]
      by_cases hex : ∃ (k : Nat) (q : Oper), ops[k]? = some q ∧ q.dst = some t
      · obtain ⟨k, q, hk, hd⟩ := hex
        rw [F.tmIn k q t (lt_size hk) hk hd]
        exact I.tin k q t hk hd (hall k (lt_size hk))
      · rw [F.tmOut t fun k q _ hk e => hex ⟨k, q, hk, e⟩]
        exact I.tout t fun k q hk _ e => hex ⟨k, q, hk, e⟩
    · have := I.goes
      show GoesG γ γ' st.h.get st'.h.get st.x st'.x w w'
      rw [hfun, hx]
      exact ⟨this.ext, this.keep, this.nx, this.size, this.frame, this.dom, this.from_⟩
  · have hd : Rel E W γ st { w with drawn := w.drawn + 1 } := h.same rfl rfl rfl rfl
    refine ⟨⟨(fun h _ _ hD => by cases hD), fun _ => rfl⟩, Nat.le_refl _, (fun m _ _ hD => by cases hD), fun id _ => rfl, fun m b1 b2 b3 => ?_, fun m b1 b2 b3 => h.fresh _ (by omega), ⟨fun i hi => h.fresh i (by simp only at hi; omega), hbound, hd.glob, hd.has, hd.inj, hd.old⟩, ?_, hf.size, hf.defers, (fun k q t _ _ hD => by cases hD), fun t _ => hf.tmps t, (fun i _ hD => by cases hD)⟩
    · show st.h.get (st.x + m) = none
      cases hg : st.h.get (st.x + m) with
      | none => rfl
      | some o => have := Rel.lt h hg; omega
    · have := Goes.refl hd
      exact ⟨this.ext, this.keep, by simp only; omega, this.size, this.frame, this.dom, this.from_⟩
end
end Go.Proofs.YtgpgmmkkmoecmaaGreatDoor

/- Closed calls, evaluated: all code. Plain lemmas over the model; no program. -/
namespace Go.Proofs.YtgpgmmkkmoecmaaGreatDoor
open Go Go.RowKit

section
variable {E : Ev} {W : World}
def ScopeS (E : Ev) (W : World) (run : Nat → Option Code → Code → Tr AV → ES → Option (AX × Tr AV × ES)) : Prop := ∀ n s c tm st x tm' st', run n (some s) c tm st = some (x, tm', st') → ∀ γ a w (Q : Exit → Act → World → Prop), Rel E W γ st w → FrR n γ tm a →
  (∀ γ' a' w', Rel E W γ' st' w' → FrR n γ' tm' a' → Goes γ γ' st st' w w' → Q (exitOf x) a' w') → ∀ (b : Frame) (k : List Item) (cs : List Frame), ∃ e a' w', Q e a' w' ∧ Arrives E.P (lone (b.at a (.code c :: .inScope s :: k)) cs w) b k cs e a' w'
def LoopS (E : Ev) (W : World) (run : Nat → Option Code → Code → Tr AV → ES → Option (AX × Tr AV × ES)) : Prop := ∀ n c tm st x tm' st', run n none (.loop c) tm st = some (x, tm', st') → ∀ γ a w (Q : Exit → Act → World → Prop), Rel E W γ st w → FrR n γ tm a →
  (∀ γ' a' w', Rel E W γ' st' w' → FrR n γ' tm' a' → Goes γ γ' st st' w w' → Q (exitOf x) a' w') → ∀ (b : Frame) (k : List Item) (cs : List Frame), ∃ e a' w', Q e a' w' ∧ Arrives E.P (lone (b.at a (.code c :: .inLoop c :: k)) cs w) b k cs e a' w'
theorem ev_ok (hP : Plain E.P) (hm : E.P.follows .mixedOrders = true) (hO : OvS E W) : ∀ k, RunS E W (fun n c => ev E k n none c) ∧ ScopeS E W (ev E k) ∧ LoopS E W (ev E k) := by
  intro k
  induction k with
  | zero =>
    refine ⟨fun n c tm st x tm' st' he => ?_, fun n s c tm st x tm' st' he => ?_, fun n c tm st x tm' st' he => ?_⟩
    · simp [ev] at he
    · simp [ev] at he
    · simp [ev] at he
  | succ k ih =>
    obtain ⟨ihR, ihS, ihL⟩ := ih
    have hL : LoopS E W (ev E (k + 1)) := fun n c tm st x tm' st' he γ a w Q h hf hQ b kk cs => by
      simp only [ev] at he
      split at he
      · rename_i tm1 st1 h1
        obtain ⟨e, a1, w1, h2, h3⟩ := ihR n c tm st _ tm1 st1 h1 γ a w (fun e a' w' => e = .normal ∧ ∃ γ', Rel E W γ' st1 w' ∧ FrR n γ' tm1 a' ∧ Goes γ γ' st st1 w w') h hf (fun γ' a' w' g1 g2 g3 => ⟨rfl, γ', g1, g2, g3⟩) b (.inLoop c :: kk) cs
        obtain ⟨rfl, γ', g1, g2, g3⟩ := h2
        obtain ⟨e2, a2, w2, h4, h5⟩ := ihL n c tm1 st1 x tm' st' he γ' a1 w1 Q g1 g2 (fun γ2 a2 w2 g4 g5 g6 => hQ γ2 a2 w2 g4 g5 (g3.trans g6)) b kk cs
        exact ⟨e2, a2, w2, h4, .of_steps (Steps.trans h3 (.one step_inLoop)) h5⟩
      · rename_i hne
        obtain ⟨e, a1, w1, h2, h3⟩ := ihR n c tm st x tm' st' he γ a w (fun e a' w' => e = exitOf x ∧ Q (exitOf x) a' w') h hf (fun γ' a' w' g1 g2 g3 => ⟨rfl, hQ γ' a' w' g1 g2 g3⟩) b (.inLoop c :: kk) cs
        obtain ⟨rfl, h2⟩ := h2
        cases x with
        | normal => exact absurd he (hne _ _)
        | exit id => exact ⟨_, a1, w1, h2, .pass (x := .inLoop c) rfl (fun _ _ => .inl (by simp [exitOf])) h3⟩
        | goto l => exact ⟨_, a1, w1, h2, .pass (x := .inLoop c) rfl (fun _ _ => .inl (by simp [exitOf])) h3⟩
        | ret => exact ⟨_, a1, w1, h2, .pass (x := .inLoop c) rfl (fun _ _ => .inl (by simp [exitOf])) h3⟩
    refine ⟨fun n c tm st x tm' st' he γ a w Q h hf hQ => ?_, fun n s c tm st x tm' st' he γ a w Q h hf hQ b kk cs => ?_, hL⟩
    · cases c with
      | skip =>
        simp only [ev, Option.some.injEq, Prod.mk.injEq] at he
        obtain ⟨rfl, rfl, rfl⟩ := he
        exact wp_skip (hQ γ a w h hf (Goes.refl h))
      | label l =>
        simp only [ev, Option.some.injEq, Prod.mk.injEq] at he
        obtain ⟨rfl, rfl, rfl⟩ := he
        exact wp_label (hQ γ a w h hf (Goes.refl h))
      | ret =>
        simp only [ev, Option.some.injEq, Prod.mk.injEq] at he
        obtain ⟨rfl, rfl, rfl⟩ := he
        exact wp_ret (hQ γ a w h hf (Goes.refl h))
      | exit id =>
        simp only [ev, Option.some.injEq, Prod.mk.injEq] at he
        obtain ⟨rfl, rfl, rfl⟩ := he
        exact wp_exit (hQ γ a w h hf (Goes.refl h))
      | goto l =>
        simp only [ev, Option.some.injEq, Prod.mk.injEq] at he
        obtain ⟨rfl, rfl, rfl⟩ := he
        exact wp_goto (hQ γ a w h hf (Goes.refl h))
      | scope c =>
        simp only [ev] at he
        intro b kk cs
        obtain ⟨e, a', w', h1, h2⟩ := ihS n c c tm st x tm' st' he γ a w Q h hf hQ b kk cs
        exact ⟨e, a', w', h1, .of_steps (.one step_scope) h2⟩
      | seq c1 c2 =>
        simp only [ev] at he
        refine wp_seq ?_
        split at he
        · rename_i tm1 st1 h1
          refine ihR n c1 tm st _ tm1 st1 h1 γ a w _ h hf fun γ1 a1 w1 g1 g2 g3 => ?_
          exact ihR n c2 tm1 st1 x tm' st' he γ1 a1 w1 Q g1 g2 fun γ2 a2 w2 g4 g5 g6 => hQ γ2 a2 w2 g4 g5 (g3.trans g6)
        · rename_i hne
          refine ihR n c1 tm st x tm' st' he γ a w _ h hf fun γ1 a1 w1 g1 g2 g3 => ?_
          have := hQ γ1 a1 w1 g1 g2 g3
          cases x with
          | normal => exact absurd he (hne _ _)
          | _ => exact this
      | cond q c1 c2 =>
        simp only [ev] at he
        have hq := hf.eval q
        split at he
        · rename_i hb
          rw [hb] at hq
          exact wp_cond_true (conc_c hq) (ihR n c1 tm st x tm' st' he γ a w Q h hf hQ)
        · rename_i hb
          rw [hb] at hq
          exact wp_cond_false (conc_c hq) (ihR n c2 tm st x tm' st' he γ a w Q h hf hQ)
        · simp at he
      | block id c =>
        simp only [ev] at he
        refine wp_block ?_
        split at he
        · rename_i j tm1 st1 h1
          simp only [Option.some.injEq, Prod.mk.injEq] at he
          obtain ⟨rfl, rfl, rfl⟩ := he
          refine ihR n c tm st _ tm1 st1 h1 γ a w _ h hf fun γ1 a1 w1 g1 g2 g3 => ?_
          have := hQ γ1 a1 w1 g1 g2 g3
          rw [beq_dec] at this
          by_cases hj : j = id
          · simp only [hj, decide_true, cond_true] at this
            simp only [exitOf, Exit.inBlock, hj, if_true]
            exact this
          · simp only [decide_eq_false hj, cond_false] at this
            simp only [exitOf, Exit.inBlock, hj, if_false]
            exact this
        · rename_i hne
          refine ihR n c tm st x tm' st' he γ a w _ h hf fun γ1 a1 w1 g1 g2 g3 => ?_
          have := hQ γ1 a1 w1 g1 g2 g3
          cases x with
          | exit j => exact absurd he (hne _ _ _)
          | _ => exact this
      | loop c =>
        intro b kk cs
        obtain ⟨e, a', w', h1, h2⟩ := hL n c tm st x tm' st' he γ a w Q h hf hQ b kk cs
        exact ⟨e, a', w', h1, .of_steps (.one step_loop) h2⟩
      | region id ops d =>
        simp only [ev] at he
        split at he
        · simp at he
        · rename_i tm1 st1 hreg
          simp only [Option.some.injEq, Prod.mk.injEq] at he
          obtain ⟨rfl, rfl, rfl⟩ := he
          have hC := call_ok hO ihR
          cases d with
          | true => exact region_ok hP hm hC hreg h hf hQ
          | false => exact wp_region_list (ops_ok hP hC ops _ tm st γ a w hreg h hf hQ)
      | rangeFunc f p c1 c2 => simp [ev] at he
      | refuse s => simp [ev] at he
    · simp only [ev] at he
      split at he
      · rename_i l tm1 st1 h1
        split at he
        · rename_i rest hl
          obtain ⟨e, a1, w1, h2, h3⟩ := ihR n c tm st _ tm1 st1 h1 γ a w (fun e a' w' => e = .goto l ∧ ∃ γ', Rel E W γ' st1 w' ∧ FrR n γ' tm1 a' ∧ Goes γ γ' st st1 w w') h hf (fun γ' a' w' g1 g2 g3 => ⟨rfl, γ', g1, g2, g3⟩) b (.inScope s :: kk) cs
          obtain ⟨rfl, γ', g1, g2, g3⟩ := h2
          have hg : gotoIn l (.inScope s :: kk) = some (.code rest :: .inScope s :: kk) := by simp [gotoIn, hl]
          obtain ⟨e2, a2, w2, h4, h5⟩ := ihS n s rest tm1 st1 x tm' st' he γ' a1 w1 Q g1 g2 (fun γ2 a2 w2 g4 g5 g6 => hQ γ2 a2 w2 g4 g5 (g3.trans g6)) b kk cs
          exact ⟨e2, a2, w2, h4, .of_steps (h3 _ hg) h5⟩
        · rename_i hl
          simp only [Option.some.injEq, Prod.mk.injEq] at he
          obtain ⟨rfl, rfl, rfl⟩ := he
          obtain ⟨e, a1, w1, h2, h3⟩ := ihR n c tm st _ tm1 st1 h1 γ a w (fun e a' w' => e = .goto l ∧ Q (.goto l) a' w') h hf (fun γ' a' w' g1 g2 g3 => ⟨rfl, hQ γ' a' w' g1 g2 g3⟩) b (.inScope s :: kk) cs
          obtain ⟨rfl, h2⟩ := h2
          exact ⟨.goto l, a1, w1, h2, fun k' hk => h3 k' (by simp [gotoIn, hl, hk])⟩
      · rename_i hne
        obtain ⟨e, a1, w1, h2, h3⟩ := ihR n c tm st x tm' st' he γ a w (fun e a' w' => e = exitOf x ∧ Q (exitOf x) a' w') h hf (fun γ' a' w' g1 g2 g3 => ⟨rfl, hQ γ' a' w' g1 g2 g3⟩) b (.inScope s :: kk) cs
        obtain ⟨rfl, h2⟩ := h2
        cases x with
        | normal => exact ⟨.normal, a1, w1, h2, Steps.trans h3 (.one step_inScope)⟩
        | exit id => exact ⟨.exit id, a1, w1, h2, fun k' hk => h3 k' (by simp [exitTo, hk])⟩
        | goto l => exact absurd he (hne _ _ _)
        | ret => exact ⟨.ret, a1, w1, h2, h3⟩
end
end Go.Proofs.YtgpgmmkkmoecmaaGreatDoor

/- What inst.rows, hard, soft and Right compute. -/
namespace Go.Proofs.YtgpgmmkkmoecmaaGreatDoor
open Go.RowKit

def ahead (rows : List (List Int)) : Nat → Option (List Int)
  | 0 => none
  | k + 1 => some (nth [] rows k)
theorem rowsB_drop (doms : List (List Int)) (scope : List Int) (rows : List (List Int)) (k : Nat) (h : k < rows.length) :
    rowsB doms scope (ahead rows k) (rows.drop k) = (decide ((nth [] rows k).length = scope.length) && (match ahead rows k with | none => true | some p => decide (cmpL p (nth [] rows k) < 0)) && inDoms doms scope (nth [] rows k) && rowsB doms scope (ahead rows (k + 1)) (rows.drop (k + 1))) := by
  rw [drop_cons rows [] k h]; rfl
theorem inDoms_drop (doms : List (List Int)) (s t : List Int) (k : Nat) (h : k < s.length) (h' : k < t.length) :
    inDoms doms (s.drop k) (t.drop k) = (decide (nth 0 t k ∈ nth [] doms (nth 0 s k).toNat) && inDoms doms (s.drop (k + 1)) (t.drop (k + 1))) := by
  rw [drop_cons s 0 k h, drop_cons t 0 k h', inDoms]

set_option maxRecDepth 100000 in
theorem rows_any (vD vH vS vs v : Value) (doms : List (List Int)) (scope : List Int) (rows : List (List Int)) (ok : Nat → Prop) (w : World) (hD : Sl kRow w ok vD doms) (hs : Sl (Kd.int .i64) w ok vs scope) (hr : Sl kRow w ok v rows)
    (hsc : ∀ k, k < scope.length → 0 ≤ nth 0 scope k ∧ nth 0 scope k < doms.length) :
    Calls Tryz.prog 55 #[.agg #[vD, vH, vS], vs, v] w fun e w' => e = .returned (.bool (rowsB doms scope none rows)) ∧ Below w.heap.size w w' := by
  obtain ⟨AD, cD, rfl, hcD, hmD, hAD⟩ := hD
  have HB := below_alloc1 w (.cells #[.slice AD doms.length cD, vH, vS] 30)
  have HD := Sl.elems (Sl.below (v := .slice AD doms.length cD) (xs := doms) (by decide) ⟨AD, cD, rfl, hcD, hmD, hAD⟩ HB)
  clear hAD
  obtain ⟨As, cs, rfl, hcs, hms, hAs⟩ := hs
  have HS := Sl.elems (Sl.below (v := .slice As scope.length cs) (xs := scope) (by decide) ⟨As, cs, rfl, hcs, hms, hAs⟩ HB)
  clear hAs
  obtain ⟨A, c, rfl, hc, hm, hA⟩ := hr
  have HR := Sl.elems (Sl.below (v := .slice A rows.length c) (xs := rows) (by decide) ⟨A, c, rfl, hc, hm, hA⟩ HB)
  clear hA
  have hsc' := Lib.hid hsc
  clear hsc
  go_enter Tryz.func55, Tryz.ntmps55
  go_wp2
  go_loopw [13] (fun i wr => ∃ k : Nat, i = .int .i64 k ∧ k ≤ rows.length ∧ Hid (rowsB doms scope none rows = rowsB doms scope (ahead rows k) (rows.drop k)) ∧ ∃ n, wr = (w.alloc (.cells #[.slice AD doms.length cD, vH, vS] 30)).drewN n) (fun i _ => rows.length - (intOf i).toNat)
  case atStart => exact ⟨0, rfl, by omega, Lib.hid rfl, 0, rfl⟩
  case round =>
    obtain ⟨k, rfl, hk, H, nd, rfl⟩ := hrel
    by_cases hkl : k < rows.length
    · obtain ⟨b, o, vt, rfl, c1, ht⟩ := HR.row hkl
      obtain ⟨At, ct, rfl, hct, hmt, hAt⟩ := ht
      have H' := Lib.hid (rowsB_drop doms scope rows k hkl)
      by_cases hlen : (nth [] rows k).length = scope.length
      · have hb : (((nth [] rows k).length : Int) != scope.length) = false := by simp; omega
        have hlen' : (nth [] rows k).length ≤ scope.length ∧ scope.length ≤ (nth [] rows k).length := by omega
        obtain ⟨hl1, hl2⟩ := hlen'
        have hlen := Lib.hid hlen
        have hSt : Sl (Kd.int .i64) (w.alloc (.cells #[.slice AD doms.length cD, vH, vS] 30)) ok (.slice At scope.length ct) (nth [] rows k) := by rw [← hlen.out]; exact ⟨At, ct, rfl, hct, hmt, hAt⟩
        by_cases hC : 0 < k ∧ ¬ cmpL (nth [] rows (k - 1)) (nth [] rows k) < 0
        · obtain ⟨hpos, hcmp⟩ := hC
          obtain ⟨b', o', vp, he, c2, hp⟩ := HR.row (j := k - 1) (by omega)
          injection he with he
          injection he with he1 he2
          subst he1 he2
          have hs0 : IntKind.i64.wrap ((k:Int) - 1) = (k:Int) - 1 := IntWalk.i64_in _ (by omega)
          have hs1 : ((k:Int) - 1).toNat = k - 1 := by omega
          have hah : Hid ((match ahead rows k with | none => true | some p => decide (cmpL p (nth [] rows k) < 0)) = false) := by
            obtain ⟨j, rfl⟩ : ∃ j, k = j + 1 := ⟨k - 1, by omega⟩
            exact Lib.hid (decide_eq_false hcmp)
          have hcp' := Lib.hid (fun n => tcompare_any vp (.slice At scope.length ct) _ _ ok ((w.alloc (.cells #[.slice AD doms.length cD, vH, vS] 30)).drewN n) (hp.drewN (by decide) n) (hSt.drewN (by decide) n))
          clear hp
          go_wp2_with (go_at_call 89; refine (hcp'.out _).mono ?_; rintro e w' ⟨rfl, rfl⟩)
          go_ret
          exact ⟨ret_bool (by rw [H.out, H'.out, hah.out]; simp), below_drewN HB _⟩
        · have Hgo : Hid ((match ahead rows k with | none => true | some p => decide (cmpL p (nth [] rows k) < 0)) = true) := by
            cases k with
            | zero => exact Lib.hid rfl
            | succ j => exact Lib.hid (decide_eq_true (Classical.not_not.1 fun h => hC ⟨Nat.succ_pos _, h⟩))
          have Hx : Hid (rowsB doms scope none rows = (inDoms doms scope (nth [] rows k) && rowsB doms scope (ahead rows (k + 1)) (rows.drop (k + 1)))) := by
            apply Lib.hid; rw [H.out, H'.out, Hgo.out, hlen.out]; simp only [decide_true, Bool.true_and]
          clear H H'
          have hin : 0 < k ∧ cmpL (nth [] rows (k - 1)) (nth [] rows k) < 0 ∨ ¬ 0 < k := by
            rcases Nat.lt_or_ge 0 k with h | h
            · exact .inl ⟨h, Classical.not_not.1 fun h' => hC ⟨h, h'⟩⟩
            · exact .inr (by omega)
          clear hC Hgo
          have hfacts : ∃ vp, (0 < k → (w.alloc (.cells #[.slice AD doms.length cD, vH, vS] 30)).cell? ⟨b, o + (k - 1), none⟩ = some vp) ∧ ∀ n, 0 < k → Calls Tryz.prog 89 #[vp, .slice At scope.length ct] ((w.alloc (.cells #[.slice AD doms.length cD, vH, vS] 30)).drewN n) fun e w' => e = .returned (.int .i64 (cmpL (nth [] rows (k - 1)) (nth [] rows k))) ∧ (w.alloc (.cells #[.slice AD doms.length cD, vH, vS] 30)).drewN n = w' := by
            rcases hin with ⟨hpos, _⟩ | hpos
            · obtain ⟨b', o', vp, he, c2, hp⟩ := HR.row (j := k - 1) (by omega)
              injection he with he
              injection he with he1 he2
              subst he1 he2
              exact ⟨vp, fun _ => c2, fun n _ => tcompare_any _ _ _ _ ok _ (hp.drewN (by decide) n) (hSt.drewN (by decide) n)⟩
            · exact ⟨undef, fun h => absurd h hpos, fun _ h => absurd h hpos⟩
          obtain ⟨vp, c2, hcp⟩ := hfacts
          have hcp' := Lib.hid hcp
          clear hcp
          have hs0 : 0 < k → IntKind.i64.wrap ((k:Int) - 1) = (k:Int) - 1 := fun h => IntWalk.i64_in _ (by omega)
          have hs1 : 0 < k → ((k:Int) - 1).toNat = k - 1 := by omega
          rcases hin with ⟨hpos, hcmp⟩ | hpos
          all_goals
            first | replace c2 := c2 hpos | clear c2
            first | replace hs0 := hs0 hpos | clear hs0
            first | replace hs1 := hs1 hpos | clear hs1
            go_wp2_with (go_at_call 89; refine (hcp'.out _ hpos).mono ?_; rintro e w' ⟨rfl, rfl⟩)
            try clear hcmp c2 hs0 hs1
            clear hcp'
            go_loopw [39] (fun i wr => ∃ m : Nat, i = .int .i64 m ∧ m ≤ scope.length ∧ Hid (inDoms doms scope (nth [] rows k) = inDoms doms (scope.drop m) ((nth [] rows k).drop m)) ∧ ∃ n, wr = (w.alloc (.cells #[.slice AD doms.length cD, vH, vS] 30)).drewN n) (fun i _ => scope.length - (intOf i).toNat)
            case atStart => exact ⟨0, rfl, by omega, Lib.hid rfl, _, rfl⟩
            case round =>
              obtain ⟨m, rfl, hm1, G, nd1, rfl⟩ := hrel
              by_cases hml : m < scope.length
              · obtain ⟨b1, o1, rfl, d1⟩ := HS.num hml
                obtain ⟨b2, o2, rfl, d2⟩ := (Sl.elems hSt).num (j := m) (by rw [hlen.out]; exact hml)
                obtain ⟨q1, q2⟩ := hsc'.out m hml
                obtain ⟨b3, o3, v3, rfl, d3, hd3⟩ := HD.row (j := (nth 0 scope m).toNat) (by omega)
                have G' := Lib.hid (inDoms_drop doms scope (nth [] rows k) m hml (by rw [hlen.out]; exact hml))
                have hct' := Lib.hid (fun n => contains_any v3 _ (nth 0 (nth [] rows k) m) ok ((w.alloc (.cells #[.slice (some ⟨b3, o3, none⟩) doms.length cD, vH, vS] 30)).drewN n) (hd3.drewN (by decide) n))
                clear HS hSt HD hd3
                go_wp2
                go_quiet ((go_at_call 90; exact quiet_add_left (hct'.out _)))
                cases hmem : decide (nth 0 (nth [] rows k) m ∈ nth [] doms (nth 0 scope m).toNat)
                · go_wp2
                  go_ret
                  exact ⟨ret_bool (by rw [Hx.out, G.out, G'.out, hmem]; simp), by first | exact below_drewN HB _ | exact below_drewN (below_drewN HB _) _⟩
                · go_wp2
                  go_roundw
                  case rel => exact ⟨m + 1, by go_num, by omega, Lib.hid (by rw [G.out, G'.out, hmem]; simp), by first | exact ⟨_, rfl⟩ | exact ⟨_, World.drewN_drewN ..⟩⟩
                  case measure => simp [intOf]; omega
              · go_wp2
                go_roundw
                case rel => exact ⟨k + 1, by go_num, by omega, Lib.hid (by rw [Hx.out, G.out, List.drop_eq_nil_of_le (show scope.length ≤ m by omega)]; simp [inDoms]), by first | exact ⟨_, rfl⟩ | exact ⟨_, World.drewN_drewN ..⟩⟩
                case measure => simp [intOf]; omega
      · have hb : (((nth [] rows k).length : Int) != scope.length) = true := by simp; omega
        go_wp2
        go_ret
        exact ⟨ret_bool (by rw [H.out, H'.out, decide_eq_false hlen]; simp), below_drewN HB _⟩
    · go_wp2
      go_ret
      exact ⟨ret_bool (by rw [H.out, List.drop_eq_nil_of_le (by omega)]; cases k <;> rfl), below_drewN HB _⟩

/-- A hard constraint, a soft one. -/
abbrev kCon : Kd Con := Kd.iso (Kd.pair (Kd.int .i64) (Kd.pair kRow (Kd.pair kRows kRow))) (fun c => (c.kind, c.scope, c.rows, c.args))
abbrev kSft : Kd Sft := Kd.iso (Kd.pair kRow (Kd.pair kRows (Kd.pair kRow (Kd.int .i64)))) (fun s => (s.scope, s.rows, s.costs, s.dflt))
theorem kCon_cells {w : World} {ok : Nat → Prop} {c : Con} {cs : List Value} (h : kCon.K w ok c cs) : ∃ vs vr va, cs = [.int .i64 c.kind, vs, vr, va] ∧ Sl (Kd.int .i64) w ok vs c.scope ∧ Sl kRow w ok vr c.rows ∧ Sl (Kd.int .i64) w ok va c.args := by
  obtain ⟨_, _, rfl, h0, _, _, rfl, ⟨vs, rfl, h1⟩, _, _, rfl, ⟨vr, rfl, h2⟩, va, rfl, h3⟩ := h
  exact ⟨vs, vr, va, by rw [show _ = [Value.int .i64 c.kind] from h0]; rfl, h1, h2, h3⟩
theorem kSft_cells {w : World} {ok : Nat → Prop} {s : Sft} {cs : List Value} (h : kSft.K w ok s cs) : ∃ vs vr vc, cs = [vs, vr, vc, .int .i64 s.dflt] ∧ Sl (Kd.int .i64) w ok vs s.scope ∧ Sl kRow w ok vr s.rows ∧ Sl (Kd.int .i64) w ok vc s.costs := by
  obtain ⟨_, _, rfl, ⟨vs, rfl, h1⟩, _, _, rfl, ⟨vr, rfl, h2⟩, _, _, rfl, ⟨vc, rfl, h3⟩, h0⟩ := h
  exact ⟨vs, vr, vc, by rw [show _ = [Value.int .i64 s.dflt] from h0]; rfl, h1, h2, h3⟩
theorem kCon_mk {w : World} {ok : Nat → Prop} {c : Con} {vs vr va : Value} (h1 : Sl (Kd.int .i64) w ok vs c.scope) (h2 : Sl kRow w ok vr c.rows) (h3 : Sl (Kd.int .i64) w ok va c.args) : kCon.K w ok c [.int .i64 c.kind, vs, vr, va] :=
  ⟨[_], [_, _, _], rfl, rfl, [_], [_, _], rfl, ⟨_, rfl, h1⟩, [_], [_], rfl, ⟨_, rfl, h2⟩, _, rfl, h3⟩
theorem kSft_mk {w : World} {ok : Nat → Prop} {s : Sft} {vs vr vc : Value} (h1 : Sl (Kd.int .i64) w ok vs s.scope) (h2 : Sl kRow w ok vr s.rows) (h3 : Sl (Kd.int .i64) w ok vc s.costs) : kSft.K w ok s [vs, vr, vc, .int .i64 s.dflt] :=
  ⟨[_], [_, _, _], rfl, ⟨_, rfl, h1⟩, [_], [_, _], rfl, ⟨_, rfl, h2⟩, [_], [_], rfl, ⟨_, rfl, h3⟩, rfl⟩

theorem scopeB_bounds {n : Nat} {l : List Int} (h : scopeB n l = true) : ∀ k, k < l.length → 0 ≤ nth 0 l k ∧ nth 0 l k < n := by
  simp only [scopeB, Bool.and_eq_true, decide_eq_true_eq] at h
  obtain ⟨⟨⟨⟨h0, _⟩, hr⟩, h1⟩, h2⟩ := h
  have mono : ∀ (j k : Nat), j + k < l.length → nth 0 l k ≤ nth 0 l (j + k) ∧ True := by
    have step : ∀ k, k + 1 < l.length → nth 0 l k < nth 0 l (k + 1) := by
      intro k hk
      have : risingB (l.drop k) = true := by
        induction k with
        | zero => exact hr
        | succ k ih =>
          have := ih (by omega)
          rw [risingB_drop l k (by omega)] at this
          simp only [Bool.and_eq_true] at this
          exact this.2
      rw [risingB_drop l k hk] at this
      simp only [Bool.and_eq_true, decide_eq_true_eq] at this
      exact this.1
    intro j
    induction j with
    | zero => intro k _; simp
    | succ j ih =>
      intro k hk
      have a := ih k (by omega)
      have b := step (j + k) (by omega)
      rw [show j + 1 + k = j + k + 1 from by omega]
      exact ⟨by omega, trivial⟩
  intro k hk
  have a := mono k 0 (by omega)
  have b := mono (l.length - 1 - k) k (by omega)
  rw [show l.length - 1 - k + k = l.length - 1 from by omega] at b
  simp only [Nat.add_zero] at a
  exact ⟨Int.le_trans h1 a.1, Int.lt_of_le_of_lt b.1 h2⟩

set_option maxRecDepth 100000 in
theorem hard_any (vD vH vS vs vr va : Value) (x : Ins) (c : Con) (ok : Nat → Prop) (w : World) (hD : Sl kRow w ok vD x.doms) (h1 : Sl (Kd.int .i64) w ok vs c.scope) (h2 : Sl kRow w ok vr c.rows) (h3 : Sl (Kd.int .i64) w ok va c.args) :
    Calls Tryz.prog 25 #[.agg #[vD, vH, vS], .agg #[.int .i64 c.kind, vs, vr, va]] w fun e w' => e = .returned (.bool (hardB x c)) ∧ Below w.heap.size w w' := by
  obtain ⟨AD, cD, rfl, hcD, hmD, hAD⟩ := hD
  obtain ⟨As, cs, rfl, hcs, hms, hAs⟩ := h1
  obtain ⟨Ar, cr, rfl, hcr, hmr, hAr⟩ := h2
  obtain ⟨Aa, ca, rfl, hca, hma, hAa⟩ := h3
  have HB0 := (below_alloc1 w (.cells #[.slice AD x.doms.length cD, vH, vS] 30)).alloc (by simp) (.cells #[.int .i64 c.kind, .slice As c.scope.length cs, .slice Ar c.rows.length cr, .slice Aa c.args.length ca] 34)
  have HD := Sl.below (v := .slice AD x.doms.length cD) (xs := x.doms) (by decide) ⟨AD, cD, rfl, hcD, hmD, hAD⟩ HB0
  have HS := Sl.below (v := .slice As c.scope.length cs) (xs := c.scope) (by decide) ⟨As, cs, rfl, hcs, hms, hAs⟩ HB0
  have HR := Sl.below (v := .slice Ar c.rows.length cr) (xs := c.rows) (by decide) ⟨Ar, cr, rfl, hcr, hmr, hAr⟩ HB0
  have HA := Sl.below (v := .slice Aa c.args.length ca) (xs := c.args) (by decide) ⟨Aa, ca, rfl, hca, hma, hAa⟩ HB0
  clear hAD hAs hAr hAa
  have HB := Lib.hid HB0
  clear HB0
  have hsc := scope_any _ vH vS _ _ _ ok _ HD HS
  have hsc' := Lib.hid hsc
  clear hsc
  go_enter Tryz.func25, Tryz.ntmps25
  go_wp2_with (go_at_call 53; refine (hsc'.out).mono ?_; rintro e w' ⟨rfl, hb⟩; (obtain ⟨hc, hb'⟩ : (∀ b o, _ → _) ∧ Hid _ := ⟨bcell hb, Lib.hid hb⟩); clear hb)
  all_goals try (go_at_call 54; refine (linear_any _ _ _ _ _ _ (HS.below (by decide) hb'.out) (HA.below (by decide) hb'.out)).mono ?_; rintro e w'' ⟨rfl, hb⟩; have hb2 := Lib.hid hb; clear hb; go_wp2)
  all_goals try (go_at_call 55; refine (rows_any _ _ _ _ _ _ _ _ _ _ (HD.below (by decide) hb'.out) (HS.below (by decide) hb'.out) (HR.below (by decide) hb'.out) (scopeB_bounds (by assumption))).mono ?_; rintro e w'' ⟨rfl, hb⟩; have hb2 := Lib.hid hb; clear hb; go_wp2)
  all_goals go_ret
  all_goals refine ⟨ret_bool ?_, by first | exact below_next (below_next HB.out hb'.out) hb2.out | exact below_next HB.out hb'.out⟩
  all_goals clear hc hsc' HD HS HR HA HB hb'
  all_goals try clear hb2
  all_goals try (simp_all [hardB]; done)
  all_goals simp_all [hardB]
  all_goals first | (intro h1; exfalso; omega) | (intro h1; exfalso; have h2 := congrArg List.length h1; simp only [List.length_nil] at h2; omega)
end Go.Proofs.YtgpgmmkkmoecmaaGreatDoor

/- Closed calls, evaluated: data that a call has laid, taken over under names. Plain lemmas over the model; no program's function. -/
namespace Go.Proofs.YtgpgmmkkmoecmaaGreatDoor
open Go Go.RowKit

def nA (k : Int) : AV := .c (.int .i64 k)
noncomputable section
/-- A slice of n elements, the cells of which are told. -/
def imSl (st : ES) (l : List AV) (n : Nat) : Option (AV × ES) :=
  bif Nat.blt st.x 1000000000 then (match n with
    | 0 => some (.z st.x, ⟨st.h, st.x + 1⟩)
    | n + 1 => some (.s st.x 0 (n + 1) true 0, ⟨st.h.put st.x (some (.ro l)), st.x + 1⟩)) else none
def imI (st : ES) (xs : List Int) : Option (AV × ES) := imSl st (xs.map nA) xs.length
def imIs (st : ES) : List (List Int) → Option (List AV × ES)
  | [] => some ([], st)
  | r :: rs => match imI st r with
    | none => none
    | some (a, st1) => match imIs st1 rs with
      | none => none
      | some (l, st2) => some (a :: l, st2)
def imRows (st : ES) (rs : List (List Int)) : Option (AV × ES) := match imIs st rs with
  | none => none
  | some (l, st1) => imSl st1 l rs.length
def imCon (st : ES) (c : Con) : Option (List AV × ES) := match imI st c.scope with
  | none => none
  | some (a, st1) => match imRows st1 c.rows with
    | none => none
    | some (b, st2) => match imI st2 c.args with
      | none => none
      | some (d, st3) => some ([nA c.kind, a, b, d], st3)
def imSft (st : ES) (c : Sft) : Option (List AV × ES) := match imI st c.scope with
  | none => none
  | some (a, st1) => match imRows st1 c.rows with
    | none => none
    | some (b, st2) => match imI st2 c.costs with
      | none => none
      | some (d, st3) => some ([a, b, d, nA c.dflt], st3)
def imAll {α : Type} (f : ES → α → Option (List AV × ES)) (st : ES) : List α → Option (List AV × ES)
  | [] => some ([], st)
  | r :: rs => match f st r with
    | none => none
    | some (a, st1) => match imAll f st1 rs with
      | none => none
      | some (l, st2) => some (a ++ l, st2)
def imIns (st : ES) (y : Ins) : Option (AV × ES) := match imRows st y.doms with
  | none => none
  | some (a, st1) => match imAll imCon st1 y.hard with
    | none => none
    | some (l, st2) => match imSl st2 l y.hard.length with
      | none => none
      | some (b, st3) => match imAll imSft st3 y.soft with
        | none => none
        | some (k, st4) => match imSl st4 k y.soft.length with
          | none => none
          | some (d, st5) => some (.g [a, b, d], st5)
end
section
variable {E : Ev} {W w0 w w' : World} {γ0 γ γ' : Nm} {st0 st st' : ES}
theorem Rel.later (h : Rel E W γ st w) (hb : Below w.heap.size w w') : Rel E W γ st w' ∧ Goes γ γ st st w w' := by
  refine ⟨⟨h.fresh, h.small, h.glob, fun i ob hi => ?_, h.inj, ?_⟩, ⟨Ext.refl _, fun _ _ h => h, Nat.le_refl _, hb.size, fun k hk _ => hb.block k hk, fun _ _ h => h, fun i ob bk hi hbk => .inr ⟨i, ob, bk, hi, hbk, rfl, fun h => h⟩⟩⟩
  · obtain ⟨bk, h1, h2, h3, h4⟩ := h.has i ob hi
    exact ⟨bk, h1, Nat.lt_of_lt_of_le h2 hb.size, AO.at_congr (hb.block _ h2) h3, h4⟩
  · exact h.old.trans (hb.mono h.old.size)
structure Imp (E : Ev) (W : World) (γ0 : Nm) (st0 : ES) (w0 : World) (γ : Nm) (st : ES) (w : World) : Prop where
  rel : Rel E W γ st w
  goes : Goes γ0 γ st0 st w0 w
  own : ∀ i ob bk, st.h.get i = some ob → ob.own = true → γ i = some bk → bk.b < w0.heap.size
theorem imSl_ok (h : Imp E W γ0 st0 w0 γ st w) {l : List AV} {n c : Nat} {r : AV} (hi : imSl st l n = some (r, st')) {A : Option Addr} {vs : List Value} (hl : concL γ l = some vs) (hn : n ≤ c) (h0 : n ≠ 0 → vs ≠ [])
    (hc : ∀ j u, vs[j]? = some u → ∃ b o, A = some ⟨b, o, none⟩ ∧ w0.heap.size ≤ b ∧ w.cell? ⟨b, o + j, none⟩ = some u) : ∃ γ', Ext γ γ' ∧ Imp E W γ0 st0 w0 γ' st' w ∧ conc γ' r = some (.slice A n c) := by
  unfold imSl at hi
  obtain ⟨hx, hi⟩ := bif_some hi
  have hx := blt_lt hx
  have hf := h.rel.fresh st.x (Nat.le_refl _)
  have hgx := h.goes.nx
  cases n with
  | zero =>
    simp only [Option.some.injEq, Prod.mk.injEq] at hi
    obtain ⟨rfl, rfl⟩ := hi
    have hext := nameB_ext hf ⟨0, 0, c, A⟩
    have back : ∀ {j : Nat} {oj : AO} {bj : Bk}, st.h.get j = some oj → nameB γ st.x ⟨0, 0, c, A⟩ j = some bj → γ j = some bj := fun hj hbj => by
      obtain ⟨bk, e1, _⟩ := h.rel.has _ _ hj
      rw [hext _ _ e1] at hbj; cases hbj
      exact e1
    refine ⟨nameB γ st.x ⟨0, 0, c, A⟩, hext, ⟨⟨fun i hi => ?_, hx, fun g hg => ?_, fun i ob hi => ?_, fun i j oi oj bi bj h1 h2 h3 h4 h5 h6 => h.rel.inj i j oi oj bi bj h1 h2 h3 (back h1 h4) (back h2 h5) h6, h.rel.old⟩, ?_, fun i ob bk h1 h2 h3 => h.own i ob bk h1 h2 (back h1 h3)⟩, by simp [conc, nameB_same]⟩
    · unfold nameB
      rw [if_neg (by simp only at hi; omega)]
      exact h.rel.fresh i (by simp only at hi; omega)
    · obtain ⟨k, nl, e⟩ := h.rel.glob g hg
      exact ⟨k, nl, hext _ _ e⟩
    · obtain ⟨bk, e1, e2, e3, e4⟩ := h.rel.has i ob hi
      exact ⟨bk, hext _ _ e1, e2, AO.at_ext hext e3, e4⟩
    · have G := h.goes
      exact ⟨G.ext.trans hext, fun i hi hn => by unfold nameB; rw [if_neg (by omega)]; exact G.keep i hi hn, Nat.le_succ_of_le G.nx, G.size, G.frame, G.dom, fun i ob bk hi hb => G.from_ i ob bk hi (back hi hb)⟩
  | succ n =>
    simp only [Option.some.injEq, Prod.mk.injEq] at hi
    obtain ⟨rfl, rfl⟩ := hi
    obtain ⟨v0, vs0, rfl⟩ : ∃ v0 vs0, vs = v0 :: vs0 := by
      cases vs with
      | nil => exact absurd rfl (h0 (by omega))
      | cons a b => exact ⟨a, b, rfl⟩
    obtain ⟨b, o, rfl, hb, hcell⟩ := hc 0 v0 rfl
    have hbw : b < w.heap.size := lt_of_cell hcell
    have hext := nameB_ext hf ⟨b, o, c, none⟩
    have hg : ∀ j, (st.h.put st.x (some (.ro l))).get j = if j = st.x then some (.ro l) else st.h.get j := fun j => Tr.get_put hx
    have back : ∀ {j : Nat} {oj : AO} {bj : Bk}, st.h.get j = some oj → nameB γ st.x ⟨b, o, c, none⟩ j = some bj → γ j = some bj := fun hj hbj => by
      obtain ⟨bk, e1, _⟩ := h.rel.has _ _ hj
      rw [hext _ _ e1] at hbj; cases hbj
      exact e1
    have hro : AO.at_ E.P (nameB γ st.x ⟨b, o, c, none⟩) ⟨b, o, c, none⟩ w (.ro l) := ⟨_, concL_ext hext l hl, fun j v hj => by
      obtain ⟨b', o', e, _, hc'⟩ := hc j v hj
      cases e
      exact hc'⟩
    refine ⟨nameB γ st.x ⟨b, o, c, none⟩, hext, ⟨⟨fun i hi => ?_, hx, fun g hg' => ?_, fun i ob hi => ?_, fun i j oi oj bi bj h1 h2 h3 h4 h5 h6 => ?_, h.rel.old⟩, ?_, fun i ob bk h1 h2 h3 => ?_⟩, ?_⟩
    · unfold nameB
      rw [if_neg (by simp only at hi; omega)]
      exact h.rel.fresh i (by simp only at hi; omega)
    · obtain ⟨k, nl, e⟩ := h.rel.glob g hg'
      exact ⟨k, nl, hext _ _ e⟩
    · simp only [hg] at hi
      split at hi
      · rename_i e
        subst e
        cases hi
        exact ⟨_, nameB_same, hbw, hro, fun h => by cases h⟩
      · obtain ⟨bk, e1, e2, e3, e4⟩ := h.rel.has i ob hi
        exact ⟨bk, hext _ _ e1, e2, AO.at_ext hext e3, e4⟩
    · simp only [hg] at h1 h2
      split at h1
      · cases h1; cases h3
      · split at h2
        · rename_i e
          subst e
          rw [nameB_same] at h5; cases h5
          have := h.own i oi bi h1 h3 (back h1 h4)
          simp only at h6; omega
        · exact h.rel.inj i j oi oj bi bj h1 h2 h3 (back h1 h4) (back h2 h5) h6
    · have G := h.goes
      refine ⟨G.ext.trans hext, fun i hi hn => by unfold nameB; rw [if_neg (by omega)]; exact G.keep i hi hn, Nat.le_succ_of_le G.nx, G.size, G.frame, fun i hi hn => ?_, fun i ob bk hi hbk => ?_⟩
      · rw [hg, if_neg (by omega)]
        exact G.dom i hi hn
      · rw [hg] at hi
        split at hi
        · rename_i e
          subst e
          rw [nameB_same] at hbk; cases hbk
          exact .inl hb
        · exact G.from_ i ob bk hi (back hi hbk)
    · simp only [hg] at h1
      split at h1
      · cases h1; cases h2
      · exact h.own i ob bk h1 h2 (back h1 h3)
    · rw [conc_s_mk nameB_same (fun _ => by simp only; omega)]
      simp
theorem imI_ok (h : Imp E W γ0 st0 w0 γ st w) {xs : List Int} {r : AV} (hi : imI st xs = some (r, st')) {v : Value} (hs : Sl (Kd.int .i64) w (w0.heap.size ≤ ·) v xs) : ∃ γ', Ext γ γ' ∧ Imp E W γ0 st0 w0 γ' st' w ∧ conc γ' r = some v := by
  obtain ⟨A, c, rfl, h1, _, h2⟩ := hs
  refine imSl_ok h hi (vs := xs.map (Value.int .i64)) ?_ h1 (fun hn he => hn (by simpa using congrArg List.length he)) fun j u hj => ?_
  · have : xs.map nA = (xs.map (Value.int .i64)).map .c := by simp [nA]
    rw [this]; exact concL_c _
  · rw [List.getElem?_map, Option.map_eq_some_iff] at hj
    obtain ⟨x, hx, rfl⟩ := hj
    obtain ⟨b, o, cs, hA, hok, hk, hcs⟩ := h2 j x hx
    refine ⟨b, o, hA, hok, ?_⟩
    have hk' : cs = [Value.int .i64 x] := hk
    have := hcs 0 _ (by rw [hk']; rfl)
    simpa [Kd.int, Kd.scalar] using this
theorem imIs_ok : ∀ {rs : List (List Int)} {γ : Nm} {st st' : ES} {l : List AV} {vs : List Value}, Imp E W γ0 st0 w0 γ st w → imIs st rs = some (l, st') → vs.length = rs.length → (∀ (j : Nat) (v : Value) (r : List Int), vs[j]? = some v → rs[j]? = some r → Sl (Kd.int .i64) w (w0.heap.size ≤ ·) v r) →
    ∃ γ', Ext γ γ' ∧ Imp E W γ0 st0 w0 γ' st' w ∧ concL γ' l = some vs
  | [], γ, st, st', l, vs, h, hi, hl, _ => by
    simp only [imIs, Option.some.injEq, Prod.mk.injEq] at hi
    obtain ⟨rfl, rfl⟩ := hi
    have : vs = [] := List.eq_nil_of_length_eq_zero (by simpa using hl)
    subst this
    exact ⟨γ, Ext.refl _, h, rfl⟩
  | r :: rs, γ, st, st', l, vs, h, hi, hl, hs => by
    simp only [imIs] at hi
    split at hi
    · simp at hi
    · rename_i a st1 h1
      split at hi
      · simp at hi
      · rename_i l2 st2 h2
        simp only [Option.some.injEq, Prod.mk.injEq] at hi
        obtain ⟨rfl, rfl⟩ := hi
        cases vs with
        | nil => simp at hl
        | cons v vs =>
          obtain ⟨γ1, e1, i1, c1⟩ := imI_ok h h1 (hs 0 v r rfl rfl)
          obtain ⟨γ2, e2, i2, c2⟩ := imIs_ok i1 h2 (by simpa using hl) (fun j u q hj hq => hs (j + 1) u q (by simpa using hj) (by simpa using hq))
          exact ⟨γ2, e1.trans e2, i2, concL_cons.2 ⟨v, vs, conc_ext e2 _ c1, c2, rfl⟩⟩
theorem imRows_ok (h : Imp E W γ0 st0 w0 γ st w) {rs : List (List Int)} {r : AV} (hi : imRows st rs = some (r, st')) {v : Value} (hs : Sl kRow w (w0.heap.size ≤ ·) v rs) : ∃ γ', Ext γ γ' ∧ Imp E W γ0 st0 w0 γ' st' w ∧ conc γ' r = some v := by
  unfold imRows at hi
  split at hi
  · simp at hi
  · rename_i l st1 h1
    obtain ⟨A, c, rfl, hc, _, hel⟩ := hs
    have pick : ∀ j, ∃ v, j < rs.length → ∃ b o, A = some ⟨b, o, none⟩ ∧ w0.heap.size ≤ b ∧ w.cell? ⟨b, o + j, none⟩ = some v ∧ ∀ r, rs[j]? = some r → Sl (Kd.int .i64) w (w0.heap.size ≤ ·) v r := fun j => by
      by_cases hj : j < rs.length
      · obtain ⟨b, o, cs, hA, hok, ⟨v, hv, hk⟩, hcs⟩ := hel j rs[j] (List.getElem?_eq_getElem hj)
        refine ⟨v, fun _ => ⟨b, o, hA, hok, ?_, fun r hr => ?_⟩⟩
        · have := hcs 0 v (by rw [hv]; rfl)
          simpa [Kd.slice] using this
        · rw [List.getElem?_eq_getElem hj] at hr; cases hr
          exact hk
      · exact ⟨undef, fun h => absurd h hj⟩
    obtain ⟨f, hf⟩ := Classical.axiomOfChoice pick
    obtain ⟨vs, hvs⟩ : ∃ vs, vs = (List.range rs.length).map f := ⟨_, rfl⟩
    have hvl : vs.length = rs.length := by simp [hvs]
    have hvj : ∀ (j : Nat) (v : Value), vs[j]? = some v → j < rs.length ∧ v = f j := fun j v hj => by
      have hlt := (List.getElem?_eq_some_iff.1 hj).1
      rw [hvl] at hlt
      simp [hvs, hlt] at hj
      exact ⟨hlt, hj.symm⟩
    obtain ⟨γ1, e1, i1, c1⟩ := imIs_ok (vs := vs) h h1 hvl fun j v r hj hr => by
      obtain ⟨hlt, rfl⟩ := hvj j v hj
      obtain ⟨b, o, _, _, _, h4⟩ := hf j hlt
      exact h4 r hr
    obtain ⟨γ2, e2, i2, c2⟩ := imSl_ok i1 hi (A := A) (c := c) c1 hc (fun hn he => hn (by rw [← hvl, he]; rfl)) fun j u hj => by
      obtain ⟨hlt, rfl⟩ := hvj j u hj
      obtain ⟨b, o, h1, h2, h3, _⟩ := hf j hlt
      exact ⟨b, o, h1, h2, h3⟩
    exact ⟨γ2, e1.trans e2, i2, c2⟩
theorem imCon_ok (h : Imp E W γ0 st0 w0 γ st w) {c : Con} {l : List AV} (hi : imCon st c = some (l, st')) {cs : List Value} (hk : kCon.K w (w0.heap.size ≤ ·) c cs) : ∃ γ', Ext γ γ' ∧ Imp E W γ0 st0 w0 γ' st' w ∧ concL γ' l = some cs := by
  obtain ⟨v1, v2, v3, rfl, s1, s2, s3⟩ := kCon_cells hk
  unfold imCon at hi
  split at hi
  · simp at hi
  · rename_i a st1 h1
    split at hi
    · simp at hi
    · rename_i b st2 h2
      split at hi
      · simp at hi
      · rename_i d st3 h3
        simp only [Option.some.injEq, Prod.mk.injEq] at hi
        obtain ⟨rfl, rfl⟩ := hi
        obtain ⟨γ1, e1, i1, c1⟩ := imI_ok h h1 s1
        obtain ⟨γ2, e2, i2, c2⟩ := imRows_ok i1 h2 s2
        obtain ⟨γ3, e3, i3, c3⟩ := imI_ok i2 h3 s3
        exact ⟨γ3, (e1.trans e2).trans e3, i3, concL_cons.2 ⟨_, _, rfl, concL_cons.2 ⟨_, _, conc_ext (e2.trans e3) _ c1, concL_cons.2 ⟨_, _, conc_ext e3 _ c2, concL_cons.2 ⟨_, _, c3, rfl, rfl⟩, rfl⟩, rfl⟩, rfl⟩⟩
theorem imSft_ok (h : Imp E W γ0 st0 w0 γ st w) {c : Sft} {l : List AV} (hi : imSft st c = some (l, st')) {cs : List Value} (hk : kSft.K w (w0.heap.size ≤ ·) c cs) : ∃ γ', Ext γ γ' ∧ Imp E W γ0 st0 w0 γ' st' w ∧ concL γ' l = some cs := by
  obtain ⟨v1, v2, v3, rfl, s1, s2, s3⟩ := kSft_cells hk
  unfold imSft at hi
  split at hi
  · simp at hi
  · rename_i a st1 h1
    split at hi
    · simp at hi
    · rename_i b st2 h2
      split at hi
      · simp at hi
      · rename_i d st3 h3
        simp only [Option.some.injEq, Prod.mk.injEq] at hi
        obtain ⟨rfl, rfl⟩ := hi
        obtain ⟨γ1, e1, i1, c1⟩ := imI_ok h h1 s1
        obtain ⟨γ2, e2, i2, c2⟩ := imRows_ok i1 h2 s2
        obtain ⟨γ3, e3, i3, c3⟩ := imI_ok i2 h3 s3
        exact ⟨γ3, (e1.trans e2).trans e3, i3, concL_cons.2 ⟨_, _, conc_ext (e2.trans e3) _ c1, concL_cons.2 ⟨_, _, conc_ext e3 _ c2, concL_cons.2 ⟨_, _, c3, concL_cons.2 ⟨_, _, rfl, rfl, rfl⟩, rfl⟩, rfl⟩, rfl⟩⟩
theorem imAll_ok {α : Type} {K : α → List Value → Prop} {f : ES → α → Option (List AV × ES)} (hf : ∀ {γ : Nm} {st st' : ES} {c : α} {l : List AV} {cs : List Value}, Imp E W γ0 st0 w0 γ st w → f st c = some (l, st') → K c cs → ∃ γ', Ext γ γ' ∧ Imp E W γ0 st0 w0 γ' st' w ∧ concL γ' l = some cs) :
    ∀ {rs : List α} {γ : Nm} {st st' : ES} {l : List AV} {css : List (List Value)}, Imp E W γ0 st0 w0 γ st w → imAll f st rs = some (l, st') → css.length = rs.length → (∀ (j : Nat) (cs : List Value) (r : α), css[j]? = some cs → rs[j]? = some r → K r cs) →
    ∃ γ', Ext γ γ' ∧ Imp E W γ0 st0 w0 γ' st' w ∧ concL γ' l = some css.flatten
  | [], γ, st, st', l, css, h, hi, hl, _ => by
    simp only [imAll, Option.some.injEq, Prod.mk.injEq] at hi
    obtain ⟨rfl, rfl⟩ := hi
    have : css = [] := List.eq_nil_of_length_eq_zero (by simpa using hl)
    subst this
    exact ⟨γ, Ext.refl _, h, rfl⟩
  | r :: rs, γ, st, st', l, css, h, hi, hl, hs => by
    simp only [imAll] at hi
    split at hi
    · simp at hi
    · rename_i a st1 h1
      split at hi
      · simp at hi
      · rename_i l2 st2 h2
        simp only [Option.some.injEq, Prod.mk.injEq] at hi
        obtain ⟨rfl, rfl⟩ := hi
        cases css with
        | nil => simp at hl
        | cons v vs =>
          obtain ⟨γ1, e1, i1, c1⟩ := hf h h1 (hs 0 v r rfl rfl)
          obtain ⟨γ2, e2, i2, c2⟩ := imAll_ok (K := K) hf i1 h2 (by simpa using hl) (fun j u q hj hq => hs (j + 1) u q (by simpa using hj) (by simpa using hq))
          exact ⟨γ2, e1.trans e2, i2, concL_append (concL_ext e2 _ c1) c2⟩
/-- A row of data, each of some cells. -/
theorem imKd_ok {α : Type} {d : Kd α} (hsz : 0 < d.sz) {f : ES → α → Option (List AV × ES)} (hf : ∀ {γ : Nm} {st st' : ES} {c : α} {l : List AV} {cs : List Value}, Imp E W γ0 st0 w0 γ st w → f st c = some (l, st') → d.K w (w0.heap.size ≤ ·) c cs → ∃ γ', Ext γ γ' ∧ Imp E W γ0 st0 w0 γ' st' w ∧ concL γ' l = some cs)
    (h : Imp E W γ0 st0 w0 γ st w) {rs : List α} {l : List AV} {st1 : ES} {r : AV} (h1 : imAll f st rs = some (l, st1)) (h2 : imSl st1 l rs.length = some (r, st')) {v : Value} (hs : Sl d w (w0.heap.size ≤ ·) v rs) : ∃ γ', Ext γ γ' ∧ Imp E W γ0 st0 w0 γ' st' w ∧ conc γ' r = some v := by
  obtain ⟨A, c, rfl, hc, _, hel⟩ := hs
  have pick : ∀ j, ∃ cs : List Value, j < rs.length → ∃ b o, A = some ⟨b, o, none⟩ ∧ w0.heap.size ≤ b ∧ (∀ r, rs[j]? = some r → d.K w (w0.heap.size ≤ ·) r cs) ∧ ∀ i u, cs[i]? = some u → w.cell? ⟨b, o + (j * d.sz + i), none⟩ = some u := fun j => by
    by_cases hj : j < rs.length
    · obtain ⟨b, o, cs, hA, hok, hk, hcs⟩ := hel j rs[j] (List.getElem?_eq_getElem hj)
      exact ⟨cs, fun _ => ⟨b, o, hA, hok, fun r hr => by rw [List.getElem?_eq_getElem hj] at hr; cases hr; exact hk, hcs⟩⟩
    · exact ⟨[], fun h => absurd h hj⟩
  obtain ⟨g, hg⟩ := Classical.axiomOfChoice pick
  obtain ⟨css, hcss⟩ : ∃ css, css = (List.range rs.length).map g := ⟨_, rfl⟩
  have hl : css.length = rs.length := by simp [hcss]
  have hj : ∀ (j : Nat) (cs : List Value), css[j]? = some cs → j < rs.length ∧ cs = g j := fun j cs hj => by
    have hlt := (List.getElem?_eq_some_iff.1 hj).1
    rw [hl] at hlt
    simp [hcss, hlt] at hj
    exact ⟨hlt, hj.symm⟩
  have hsz' : ∀ cs ∈ css, cs.length = d.sz := fun cs hcs => by
    obtain ⟨j, hj'⟩ := List.getElem?_of_mem hcs
    obtain ⟨hlt, rfl⟩ := hj j cs hj'
    obtain ⟨b, o, _, _, h3, _⟩ := hg j hlt
    exact d.len (h3 _ (List.getElem?_eq_getElem hlt))
  obtain ⟨γ1, e1, i1, c1⟩ := imAll_ok (K := fun c cs => d.K w (w0.heap.size ≤ ·) c cs) hf h h1 hl fun j cs r hjc hr => by
    obtain ⟨hlt, rfl⟩ := hj j cs hjc
    obtain ⟨b, o, _, _, h3, _⟩ := hg j hlt
    exact h3 r hr
  have flat : ∀ (l : List (List Value)) (n : Nat), (∀ cs ∈ l, cs.length = n) → 0 < n → ∀ i, l.flatten[i]? = (l[i / n]?).bind fun cs => cs[i % n]? := by
    intro l n hn hpos
    induction l with
    | nil => intro i; simp
    | cons x l ih =>
      intro i
      have hx := hn x (List.mem_cons_self ..)
      rw [List.flatten_cons, List.getElem?_append]
      by_cases hi : i < n
      · rw [if_pos (by omega), Nat.div_eq_of_lt hi, Nat.mod_eq_of_lt hi]; rfl
      · rw [if_neg (by omega), ih (fun cs hcs => hn cs (List.mem_cons_of_mem _ hcs)) (i - x.length), hx]
        have e1 : i / n = (i - n) / n + 1 := by rw [Nat.div_eq_sub_div hpos (by omega)]
        have e2 : i % n = (i - n) % n := (Nat.mod_eq_sub_mod (by omega))
        rw [e1, e2]; rfl
  obtain ⟨γ2, e2, i2, c2⟩ := imSl_ok i1 h2 (A := A) (c := c) c1 hc (fun hn he => by
    cases hcs0 : css with
    | nil => rw [hcs0] at hl; exact hn hl.symm
    | cons x xs =>
      have := hsz' x (by rw [hcs0]; exact List.mem_cons_self ..)
      rw [hcs0, List.flatten_cons] at he
      have := (List.append_eq_nil_iff.1 he).1
      subst this
      simp at *
      omega) fun j u hju => by
    rw [flat css d.sz hsz' hsz j, Option.bind_eq_some_iff] at hju
    obtain ⟨cs, h3, h4⟩ := hju
    obtain ⟨hlt, rfl⟩ := hj _ cs h3
    obtain ⟨b, o, h5, h6, _, h7⟩ := hg _ hlt
    refine ⟨b, o, h5, h6, ?_⟩
    have := h7 _ u h4
    rwa [Nat.mul_comm, Nat.div_add_mod] at this
  exact ⟨γ2, e1.trans e2, i2, c2⟩
/-- One block that a call has laid, as its own. -/
theorem add_ok (h : Rel E W γ st w') (hG : Goes γ0 γ st0 st w w') (hx : st.x < 1000000000) {ob : AO} {bk : Bk} (hb : w.heap.size ≤ bk.b) (hlt : bk.b < w'.heap.size) (hsep : ∀ i o b, st.h.get i = some o → γ i = some b → b.b < w.heap.size) (hW : W.heap.size ≤ w.heap.size)
    (ha : ob.at_ E.P (nameB γ st.x bk) bk w') : Rel E W (nameB γ st.x bk) ⟨st.h.put st.x (some ob), st.x + 1⟩ w' ∧ Goes γ0 (nameB γ st.x bk) st0 ⟨st.h.put st.x (some ob), st.x + 1⟩ w w' := by
  have hf := h.fresh st.x (Nat.le_refl _)
  have hext := nameB_ext hf bk
  have hgx := hG.nx
  have hg : ∀ j, (st.h.put st.x (some ob)).get j = if j = st.x then some ob else st.h.get j := fun j => Tr.get_put hx
  have back : ∀ {j : Nat} {oj : AO} {bj : Bk}, st.h.get j = some oj → nameB γ st.x bk j = some bj → γ j = some bj := fun hj hbj => by
    obtain ⟨b, e1, _⟩ := h.has _ _ hj
    rw [hext _ _ e1] at hbj; cases hbj
    exact e1
  refine ⟨⟨fun i hi => ?_, hx, fun g hg' => ?_, fun i oi hi => ?_, fun i j oi oj bi bj h1 h2 h3 h4 h5 h6 => ?_, h.old⟩, ?_⟩
  · unfold nameB
    rw [if_neg (by simp only at hi; omega)]
    exact h.fresh i (by simp only at hi; omega)
  · obtain ⟨k, nl, e⟩ := h.glob g hg'
    exact ⟨k, nl, hext _ _ e⟩
  · simp only [hg] at hi
    split at hi
    · rename_i e
      subst e
      cases hi
      exact ⟨_, nameB_same, hlt, ha, fun _ => by omega⟩
    · obtain ⟨b, e1, e2, e3, e4⟩ := h.has i oi hi
      exact ⟨b, hext _ _ e1, e2, AO.at_ext hext e3, e4⟩
  · simp only [hg] at h1 h2
    split at h1
    · rename_i e
      subst e
      rw [nameB_same] at h4; cases h4
      split at h2
      · rename_i e2; exact e2.symm
      · have := hsep j oj bj h2 (back h2 h5); omega
    · split at h2
      · rename_i e
        subst e
        rw [nameB_same] at h5; cases h5
        have := hsep i oi bi h1 (back h1 h4); omega
      · exact h.inj i j oi oj bi bj h1 h2 h3 (back h1 h4) (back h2 h5) h6
  · refine ⟨hG.ext.trans hext, fun i hi hn => by unfold nameB; rw [if_neg (by omega)]; exact hG.keep i hi hn, Nat.le_succ_of_le hG.nx, hG.size, hG.frame, fun i hi hn => ?_, fun i oi b hi hbk => ?_⟩
    · rw [hg, if_neg (by omega)]
      exact hG.dom i hi hn
    · rw [hg] at hi
      split at hi
      · rename_i e
        subst e
        rw [nameB_same] at hbk; cases hbk
        exact .inl hb
      · exact hG.from_ i oi b hi (back hi hbk)
end
end Go.Proofs.YtgpgmmkkmoecmaaGreatDoor

/- slices.Collect of slices.Values. -/
namespace Go.Proofs.YtgpgmmkkmoecmaaGreatDoor
open Go.RowKit Go.Shelf
attribute [local go_sem] Oper.semAt_some

def upto {α : Type} (f : Nat → α) (k : Nat) : List α := (List.range k).map f
theorem upto_succ {α : Type} (f : Nat → α) (k : Nat) : upto f (k + 1) = upto f k ++ [f k] := by simp [upto, List.range_succ]
theorem upto_length {α : Type} (f : Nat → α) (k : Nat) : (upto f k).length = k := by simp [upto]
theorem upto_take (zs : List Int) {k : Nat} (hk : k ≤ zs.length) : upto (fun j => zs[j]?.getD 0) k = zs.take k := by
  apply List.ext_getElem
  · simp [upto, hk]
  · intro i h1 h2
    have : i < zs.length := by simp [upto] at h1; omega
    simp [upto, this]
theorem upto_all (zs : List Int) : upto (fun j => zs[j]?.getD 0) zs.length = zs := by rw [upto_take zs (Nat.le_refl _), List.take_length]
set_option maxRecDepth 100000 in
set_option maxHeartbeats 2000000 in
theorem values1_in (F : Fence) (n : Nat) (h7 : F.fn 260) (hro : F.round = none) (hn : 1 ≤ n) (l Bs n₀ b off len cap : Nat) (zs : List Int) (hreach : len * 8 ≤ 140737488351232) (hb : b < n₀) (J Jx : List Int → World → Prop)
    (hY : ∀ pre x W, J pre W → pre.length < len → YieldAt F (n - 1) Tryz.prog l #[.int .i64 x] W fun e W' =>
      (e = .returned (.bool true) ∧ J (pre ++ [x]) W' ∧ Below n₀ W W') ∨ (e = .returned (.bool false) ∧ Jx (pre ++ [x]) W'))
    (W : World) (hBs : W.cell? ⟨Bs, 0, none⟩ = some (.slice (some ⟨b, off, none⟩) len cap)) (hc : ∀ j, j < len → W.cell? ⟨b, off + j, none⟩ = some (.int .i64 (zs[j]?.getD 0))) (h0 : J [] W) :
    CallsIn F n Tryz.prog 260 #[.func (.yield l) #[] #[], .pointer (some ⟨Bs, 0, none⟩)] W fun e W' => (∃ v, e = .returned v) ∧
      ((∃ ys, ys = upto (fun j => zs[j]?.getD 0) len ∧ J ys W') ∨ (∃ pre, (∃ k, k ≤ len ∧ pre = upto (fun j => zs[j]?.getD 0) k) ∧ Jx pre W')) := by
  refine callsIn_of_wp Tryz.func260 rfl h7 ?_ hro
  simp only [Tryz.ntmps260, List.size_toArray, List.length_cons, List.length_nil, Nat.reduceAdd, Nat.reduceSub, Array.replicate_succ, Array.replicate_zero, List.push_toArray, List.append_toArray, List.nil_append, List.cons_append]
  gi_wp2
  gi_loopw [7] (fun i wr => ∃ k : Nat, k ≤ len ∧ i = .int .i64 k ∧ J (upto (fun j => zs[j]?.getD 0) k) wr ∧ Below n₀ W wr)
    (fun i _ => len - (intOf i).toNat)
  case atStart => exact ⟨0, Nat.zero_le _, rfl, h0, Below.refl _ _⟩
  case round =>
    obtain ⟨k, hk, rfl, hJs, hnx⟩ := hrel
    have hcx : k < len → wr.cell? ⟨b, off + k, none⟩ = some (.int .i64 (zs[k]?.getD 0)) := fun h => (hnx.cell (p := ⟨b, off + k, none⟩) hb).trans (hc k h)
    by_cases hlt : k < len
    · obtain ⟨fn, tmps, assign, body, hy, hR⟩ := hY _ (zs[k]?.getD 0) wr hJs (by rw [upto_length]; exact hlt)
      have hcx' := hcx hlt
      gi_wp2
      refine hR.mono ?_
      rintro e W3 (⟨rfl, hJ3, hk3⟩ | ⟨rfl, hJx3⟩)
      · gi_wp2
        go_roundw
        case rel => exact ⟨k + 1, by omega, by simp, by rw [upto_succ]; exact hJ3, hnx.trans hk3⟩
        case measure => simp [intOf]; omega
      · gi_wp2
        refine bodyPost_ret (results_none rfl _ _ _) rfl ?_
        exact ⟨⟨_, rfl⟩, .inr ⟨_, ⟨k + 1, by omega, (upto_succ _ _).symm⟩, hJx3⟩⟩
    · obtain rfl : k = len := by omega
      gi_wp2
      go_end0
      exact ⟨⟨_, rfl⟩, .inl ⟨_, rfl, hJs⟩⟩
/-- A slice value holds numbers, in a block below n₀; or it is nil and there are none. -/
def Ints (n₀ : Nat) (W : World) (sv : Value) (zs : List Int) : Prop :=
  (sv = .slice none 0 0 ∧ zs = []) ∨ ∃ b off cap, sv = .slice (some ⟨b, off, none⟩) zs.length cap ∧ b < n₀ ∧ ∀ j, j < zs.length → W.cell? ⟨b, off + j, none⟩ = some (.int .i64 (zs[j]?.getD 0))
theorem Ints.below {n₀ : Nat} {A B : World} (h : Below n₀ A B) {sv : Value} {zs : List Int} : Ints n₀ A sv zs → Ints n₀ B sv zs
  | .inl e => .inl e
  | .inr ⟨b, off, cap, e, hb, hc⟩ => .inr ⟨b, off, cap, e, hb, fun j hj => (h.cell (p := ⟨b, off + j, none⟩) hb).trans (hc j hj)⟩
set_option maxRecDepth 100000 in
set_option maxHeartbeats 1000000 in
theorem values1_nil_in (F : Fence) (n : Nat) (h7 : F.fn 260) (hro : F.round = none) (l Bs : Nat) (J : List Int → World → Prop) (W : World) (hBs : W.cell? ⟨Bs, 0, none⟩ = some (.slice none 0 0)) (h0 : J [] W) :
    CallsIn F n Tryz.prog 260 #[.func (.yield l) #[] #[], .pointer (some ⟨Bs, 0, none⟩)] W fun e W' => (∃ v, e = .returned v) ∧ J [] W' := by
  refine callsIn_of_wp Tryz.func260 rfl h7 ?_ hro
  simp only [Tryz.ntmps260, List.size_toArray, List.length_cons, List.length_nil, Nat.reduceAdd, Nat.reduceSub, Array.replicate_succ, Array.replicate_zero, List.push_toArray, List.append_toArray, List.nil_append, List.cons_append]
  gi_wp2
  gi_loopw [7] (fun i wr => i = .int .i64 0 ∧ J [] wr) (fun _ _ => 0)
  case atStart => exact ⟨rfl, h0⟩
  case round =>
    obtain ⟨rfl, hJs⟩ := hrel
    gi_wp2
    go_end0
    exact ⟨⟨_, rfl⟩, hJs⟩
theorem values_stops (F : Fence) (n : Nat) (h7 : F.fn 260) (hro : F.round = none) (hn : 1 ≤ n) (Bs n₀ : Nat) (sv : Value) (zs : List Int) (hreach : zs.length * 8 ≤ 140737488351232) (w : World) (hBs : Bs < w.heap.size) (hn₀ : n₀ ≤ w.heap.size)
    (hc : w.cell? ⟨Bs, 0, none⟩ = some sv) (hI : Ints n₀ w sv zs) :
    SeqStopsK F n Tryz.prog 260 #[.pointer (some ⟨Bs, 0, none⟩)] (fun x : Int => #[Value.int .i64 x]) (Below n₀) (fun ys => ys = zs) (fun pre => pre <+: zs) zs.length w := fun l J Jx W hW _ _ hY h0 => by
  have hc' := (hW.cell (p := ⟨Bs, 0, none⟩) hBs).trans hc
  rcases hI.below (hW.mono hn₀) with ⟨rfl, rfl⟩ | ⟨b, off, cap, rfl, hb, hcs⟩
  · exact (values1_nil_in F n h7 hro l Bs J W hc' h0).mono fun e W' ⟨he, hj⟩ => ⟨he, .inl ⟨_, rfl, hj⟩⟩
  · refine (values1_in F n h7 hro hn l Bs n₀ b off zs.length cap zs hreach hb J Jx hY W hc' hcs h0).mono ?_
    rintro e W' ⟨he, ⟨ys, rfl, hj⟩ | ⟨pre, ⟨k, hk, rfl⟩, hj⟩⟩
    · exact ⟨he, .inl ⟨_, upto_all zs, hj⟩⟩
    · exact ⟨he, .inr ⟨_, by rw [upto_take zs hk]; exact List.take_prefix _ _, hj⟩⟩
theorem infoI : (Tryz.prog.info? 3).map (fun i => (i.zero, i.size, i.bytes)) = some (some (.int .i64 0), 1, 8) := by kernel_rfl
set_option maxRecDepth 100000 in
set_option maxHeartbeats 2000000 in
theorem appendSeq_in (F : Fence) (n : Nat) (h3 : F.fn 312) (h7 : F.fn 260) (hro : F.round = none) (hn : 3 ≤ n) (Bs : Nat) (sv : Value) (zs : List Int) (hlen : zs.length ≤ 1000000) (w : World) (hBs : Bs < w.heap.size) (hcB : w.cell? ⟨Bs, 0, none⟩ = some sv) (hI : Ints w.heap.size w sv zs) :
    CallsIn F n Tryz.prog 312 #[.slice none 0 0, .func (.func 260) #[] #[.pointer (some ⟨Bs, 0, none⟩)]] w fun e W' => ∃ v, e = .returned v ∧ W'.ownsRow w.heap.size 3 1 v zs.length (zs.map (Value.int .i64)) ∧ (v = .slice none 0 0 ↔ zs = []) ∧ Below w.heap.size w W' := by
  have h1 : 1 ≤ n := by omega
  obtain ⟨i0, hi, hz0, hz1, hz2⟩ := info_parts infoI
  refine callsIn_of_wp_marks Tryz.func312 rfl h3 ?_ hro
  simp only [Tryz.ntmps312, List.size_toArray, List.length_cons, List.length_nil, Nat.reduceAdd, Nat.reduceSub, Array.replicate_succ, Array.replicate_zero, List.push_toArray, List.append_toArray, List.nil_append, List.cons_append]
  gi_wp2
  have bO := Boxed.new w 32 (.slice none 0 0)
  have hB0 : Below w.heap.size w (w.alloc (.cells #[.slice none 0 0] 32)) := (Below.refl _ w).alloc (Nat.le_refl _) _
  refine wpIn_rangeFunc_ownG hro h1 (gf := 260) (lb := #[.pointer (some ⟨Bs, 0, none⟩)]) rfl h7 (enters_of Tryz.func260 (by kernel_rfl) rfl)
    (values_stops F (n - 1) h7 hro (by omega) Bs w.heap.size sv zs (by omega) _ (by simp; omega) (by simp) ((hB0.cell (p := ⟨Bs, 0, none⟩) hBs).trans hcB) (hI.below hB0)) belowK_t (belowK_b (by simp)) (Below.refl _ _) (fun _ => rfl)
    (fun pre W => (∃ v, Boxed W w.heap.size 32 v ∧ W.ownsRow w.heap.size 3 1 v pre.length (pre.map (Value.int .i64)) ∧ (v = .slice none 0 0 ↔ pre = [])) ∧ Below w.heap.size w W)
    (fun _ _ _ => False)
    (OwnFrom.and (Own.from (holdsRow_own w.heap.size w.heap.size 32 3 1 (fun pre : List Int => pre.length) (fun pre => pre.map (Value.int .i64)) (fun pre v => v = .slice none 0 0 ↔ pre = [])) _) (ownFrom_below (Nat.le_refl _) (by simp)))
    (fun _ _ _ _ _ hs _ _ => hs)
    ⟨⟨_, bO, World.ownsRow_nil _ _ _ _, by simp⟩, hB0⟩
    (fun x => { tmps := #[.slice none 0 0, .func (.func 260) #[] #[.pointer (some ⟨Bs, 0, none⟩)], .pointer (some ⟨w.heap.size, 0, none⟩), undef, .slice none 0 0, .int .i64 x, .func (.func 260) #[] #[.pointer (some ⟨Bs, 0, none⟩)], .int .i64 x, undef, undef, undef, undef, undef], defers := [] }) ?assign ?body ?done ?stop
  case assign =>
    intro l x W K hK
    gi_wp2
    exact hK
  case body =>
    rintro l pre x W ⟨⟨v, hv, hrow, hnil⟩, hB⟩ hlt
    have hc := hv.cell
    gi_wp2_with (gi_at_builtin; refine wpListIn_append_own _ rfl _ _ 32 rfl w.heap.size 3 i0 (.int .i64 0) 1 8 Tryz.underlying32 hi hz0 hz1 hz2 rfl (by decide) _ _ _ rfl (hrow.alloc _) ⟨W.heap.size, 0, none⟩ 1 1 [.int .i64 x] rfl rfl (cell_one_new _ _ _) (by simp [Value.oneCell']) (by simp only [maxLen]; omega) (by omega) (by have := hB.size; simp; omega) ?_; intro v' w1 hown' hgrow _; obtain ⟨g', cap', rfl⟩ := ownsRow_succ hown'; obtain ⟨hv1, hv2, hr2, hk2, hb2⟩ := hv.appended (by decide) hrow hB.size (Nat.le_refl _) hown' hgrow; have hc1 := hv1.cell; have hf1 := hv1.frozen)
    exact ⟨hk2.from _, hb2, ⟨_, hv2, by simpa using hr2, by simp⟩, hB.trans hb2⟩
  case done =>
    rintro D ys W hD rfl ⟨⟨v, hv, hrow, hnil⟩, hB⟩ hK
    have hc := hv.cell
    gi_wp2
    refine ⟨by simp, .inl ⟨_, _, rfl, run_takeDeferred hK, ?_⟩⟩
    exact ⟨_, results_tmp rfl _ _ _, v, rfl, ownsRow_putObj hrow _ hK rfl, hnil, hB.trans (belowK_b (w := w) (Nat.le_refl _) W D _ _ (by simp at hD; omega) hK rfl rfl)⟩
  case stop =>
    rintro D c pre W _ _ h _
    exact h.elim
set_option maxRecDepth 100000 in
theorem collect_any (Bs : Nat) (sv : Value) (zs : List Int) (hlen : zs.length ≤ 1000000) (w : World) (hBs : Bs < w.heap.size) (hcB : w.cell? ⟨Bs, 0, none⟩ = some sv) (hI : Ints w.heap.size w sv zs) :
    Calls Tryz.prog 258 #[.func (.func 260) #[] #[.pointer (some ⟨Bs, 0, none⟩)]] w fun e W' => ∃ v, e = .returned v ∧ W'.ownsRow w.heap.size 3 1 v zs.length (zs.map (Value.int .i64)) ∧ (v = .slice none 0 0 ↔ zs = []) ∧ Below w.heap.size w W' := by
  have H := callsIn_wide.1 (appendSeq_in Fence.wide 5 trivial trivial rfl (by decide) Bs sv zs hlen w hBs hcB hI)
  go_enter Tryz.func258, Tryz.ntmps258
  go_wp2_with (go_at_call 312; refine H.mono ?_; rintro e w' ⟨v, rfl, ho, hn, hb⟩)
  refine bodyPost_ret (results_tmp rfl _ _ _) rfl ?_
  exact ⟨v, rfl, ho, hn, hb⟩
end Go.Proofs.YtgpgmmkkmoecmaaGreatDoor

/- The plain functions that the program computes, part 4: the tokens of a text. No program, no memory. -/
namespace Go.Proofs.YtgpgmmkkmoecmaaGreatDoor

def isDigit (c : UInt8) : Bool := decide (48 ≤ c.toNat) && decide (c.toNat ≤ 57)
def isLetter (c : UInt8) : Bool := decide (97 ≤ c.toNat) && decide (c.toNat ≤ 122)
def notEol (c : UInt8) : Bool := decide (c.toNat ≠ 10)
/-- How many bytes from the first on are so. -/
def runP (p : UInt8 → Bool) : List UInt8 → Nat
  | [] => 0
  | c :: r => if p c = true then runP p r + 1 else 0
/-- How many bytes are left out. -/
def leftP : List UInt8 → Nat
  | [] => 0
  | c :: r => if c.toNat = 32 ∨ c.toNat = 9 ∨ c.toNat = 10 then 1 else if c.toNat = 35 then runP notEol (c :: r) else 0
structure Tok where
  kind : Int
  text : List UInt8
  n : Int
  at_ : Int
  deriving DecidableEq, Inhabited
/-- A number ahead: what it says, and how many bytes it has; or an error. -/
def numP (l : List UInt8) : Except Int (Int × Nat) :=
  let m := if l.head? = some 45 then 1 else 0
  let ds := (l.drop m).take (runP isDigit (l.drop m))
  if ds = [] ∨ ds.head? = some 48 ∧ 1 < ds.length + m then .error 2
  else match Lib.parseIntB 64 (l.take (m + ds.length)) with
    | .ok v => if 1000000000000 < v ∨ v < -1000000000000 then .error 4 else .ok (v, m + ds.length)
    | _ => .error 4
/-- The token that a text begins with, and how many bytes it has. -/
def tokenP (l : List UInt8) : Except Int (Tok × Nat) :=
  match l with
  | [] => .error 2
  | c :: r =>
    if c.toNat = 58 ∨ c.toNat = 44 ∨ c.toNat = 59 then .ok (⟨3, [c], 0, 0⟩, 1)
    else if isLetter c = true then .ok (⟨1, (c :: r).take (runP isLetter (c :: r)), 0, 0⟩, runP isLetter (c :: r))
    else if isDigit c = true ∨ c.toNat = 45 then match numP (c :: r) with
      | .ok (n, k) => .ok (⟨2, [], n, 0⟩, k)
      | .error e => .error e
    else .error 2
/-- The tokens from a place on. -/
def scanP : Nat → Nat → List UInt8 → Except (Nat × Int) (List Tok)
  | 0, _, _ => .ok []
  | f + 1, at_, l =>
    if l = [] then .ok [⟨4, [], 0, at_⟩]
    else if 0 < leftP l then scanP f (at_ + leftP l) (l.drop (leftP l))
    else match tokenP l with
      | .error e => .error (at_, e)
      | .ok (t, k) => match scanP f (at_ + k) (l.drop k) with
        | .ok ts => .ok ({ t with at_ := at_ } :: ts)
        | .error e => .error e
def allP (l : List UInt8) : Except (Nat × Int) (List Tok) :=
  if 100000 < l.length then .error (0, 7) else scanP (l.length + 1) 0 l

theorem runP_le (p : UInt8 → Bool) : ∀ l : List UInt8, runP p l ≤ l.length
  | [] => Nat.le_refl _
  | c :: r => by
    unfold runP
    have := runP_le p r
    split <;> simp <;> omega
theorem runP_drop (p : UInt8 → Bool) (l : List UInt8) (k : Nat) (h : k < l.length) : runP p (l.drop k) = if p (nth 0 l k) = true then runP p (l.drop (k + 1)) + 1 else 0 := by
  rw [drop_cons l 0 k h, runP]

theorem leftP_le (l : List UInt8) : leftP l ≤ l.length := by
  cases l with
  | nil => exact Nat.le_refl _
  | cons c r =>
    have := runP_le notEol (c :: r)
    simp only [leftP]
    split
    · simp
    · split
      · exact this
      · simp
theorem numP_size {l : List UInt8} {n : Int} {k : Nat} (h : numP l = .ok (n, k)) : 0 < k ∧ k ≤ l.length := by
  unfold numP at h
  dsimp only at h
  have hm1 : (if l.head? = some 45 then 1 else 0) ≤ l.length := by cases l <;> simp; split <;> omega
  generalize (if l.head? = some 45 then 1 else 0) = m at h hm1
  have hle : ((l.drop m).take (runP isDigit (l.drop m))).length ≤ l.length - m := by rw [List.length_take, List.length_drop]; omega
  generalize (l.drop m).take (runP isDigit (l.drop m)) = ds at h hle
  by_cases hc : ds = [] ∨ ds.head? = some 48 ∧ 1 < ds.length + m
  · rw [if_pos hc] at h; cases h
  · rw [if_neg hc] at h
    have hpos : 0 < ds.length := List.length_pos_iff.2 fun e => hc (.inl e)
    cases hp : Lib.parseIntB 64 (l.take (m + ds.length)) with
    | ok v =>
      rw [hp] at h
      simp only at h
      by_cases hv : 1000000000000 < v ∨ v < -1000000000000
      · rw [if_pos hv] at h; cases h
      · rw [if_neg hv] at h
        injection h with h
        injection h with _ h
        omega
    | range => rw [hp] at h; cases h
    | _ => rw [hp] at h; cases h
theorem tokenP_size {l : List UInt8} {t : Tok} {k : Nat} (h : tokenP l = .ok (t, k)) : 0 < k ∧ k ≤ l.length := by
  cases l with
  | nil => cases h
  | cons c r =>
    simp only [tokenP] at h
    split at h
    · injection h with h; injection h with _ h; simp; omega
    · split at h
      · rename_i hw
        injection h with h; injection h with _ h
        have := runP_le isLetter (c :: r)
        have h1 : 0 < runP isLetter (c :: r) := by unfold runP; rw [if_pos hw]; omega
        omega
      · split at h
        · split at h
          · rename_i n q hn
            injection h with h; injection h with _ h
            have := numP_size hn
            omega
          · cases h
        · cases h
theorem numP_err {l : List UInt8} {x : Int} (h : numP l = .error x) : x = 2 ∨ x = 4 := by
  unfold numP at h
  dsimp only at h
  generalize (if l.head? = some 45 then 1 else 0) = m at h
  generalize (l.drop m).take (runP isDigit (l.drop m)) = ds at h
  by_cases hc : ds = [] ∨ ds.head? = some 48 ∧ 1 < ds.length + m
  · rw [if_pos hc] at h; injection h with h; exact .inl h.symm
  · rw [if_neg hc] at h
    cases hp : Lib.parseIntB 64 (l.take (m + ds.length)) with
    | ok v =>
      rw [hp] at h
      simp only at h
      by_cases hv : 1000000000000 < v ∨ v < -1000000000000
      · rw [if_pos hv] at h; injection h with h; exact .inr h.symm
      · rw [if_neg hv] at h; cases h
    | range => rw [hp] at h; injection h with h; exact .inr h.symm
    | _ => rw [hp] at h; injection h with h; exact .inr h.symm
theorem tokenP_err {l : List UInt8} {x : Int} (h : tokenP l = .error x) : x = 2 ∨ x = 4 := by
  cases l with
  | nil => injection h with h; exact .inl h.symm
  | cons c r =>
    simp only [tokenP] at h
    split at h
    · cases h
    · split at h
      · cases h
      · split at h
        · split at h
          · cases h
          · rename_i hn; injection h with h; subst h; exact numP_err hn
        · injection h with h; exact .inl h.symm
/-- The tokens from a place on, with as many rounds as are wanted. -/
def scanQ (at_ : Nat) (l : List UInt8) : Except (Nat × Int) (List Tok) := scanP (l.length + 1) at_ l
theorem scanP_fuel : ∀ (f g at_ : Nat) (l : List UInt8), l.length < f → l.length < g → scanP f at_ l = scanP g at_ l
  | 0, _, _, _, h, _ => by omega
  | _ + 1, 0, _, _, _, h => by omega
  | f + 1, g + 1, at_, l, hf, hg => by
    rw [scanP, scanP]
    by_cases hl : l = []
    · rw [if_pos hl, if_pos hl]
    · have hpos : 0 < l.length := List.length_pos_iff.2 hl
      rw [if_neg hl, if_neg hl]
      by_cases h0 : 0 < leftP l
      · have := leftP_le l
        rw [if_pos h0, if_pos h0, scanP_fuel f g _ _ (by rw [List.length_drop]; omega) (by rw [List.length_drop]; omega)]
      · rw [if_neg h0, if_neg h0]
        cases ht : tokenP l with
        | error e => rfl
        | ok p =>
          obtain ⟨t, k⟩ := p
          have hk := tokenP_size ht
          simp only
          rw [scanP_fuel f g _ _ (by rw [List.length_drop]; omega) (by rw [List.length_drop]; omega)]
theorem scanQ_nil (at_ : Nat) : scanQ at_ [] = .ok [⟨4, [], 0, at_⟩] := rfl
theorem scanQ_left (at_ : Nat) (l : List UInt8) (hl : l ≠ []) (h0 : 0 < leftP l) : scanQ at_ l = scanQ (at_ + leftP l) (l.drop (leftP l)) := by
  have hpos : 0 < l.length := List.length_pos_iff.2 hl
  have := leftP_le l
  unfold scanQ
  rw [scanP, if_neg hl, if_pos h0]
  exact scanP_fuel _ _ _ _ (by rw [List.length_drop]; omega) (by omega)
theorem scanQ_bad (at_ : Nat) (l : List UInt8) (hl : l ≠ []) (h0 : ¬ 0 < leftP l) {e : Int} (h : tokenP l = .error e) : scanQ at_ l = .error (at_, e) := by
  unfold scanQ
  rw [scanP, if_neg hl, if_neg h0, h]
theorem scanQ_tok (at_ : Nat) (l : List UInt8) (hl : l ≠ []) (h0 : ¬ 0 < leftP l) {t : Tok} {k : Nat} (h : tokenP l = .ok (t, k)) :
    scanQ at_ l = match scanQ (at_ + k) (l.drop k) with | .ok ts => .ok ({ t with at_ := at_ } :: ts) | .error e => .error e := by
  have hpos : 0 < l.length := List.length_pos_iff.2 hl
  have hk := tokenP_size h
  unfold scanQ
  rw [scanP, if_neg hl, if_neg h0, h]
  simp only
  rw [scanP_fuel l.length ((l.drop k).length + 1) _ _ (by rw [List.length_drop]; omega) (by omega)]
/-- What was told ahead, and what comes. -/
def preP (ts : List Tok) : Except (Nat × Int) (List Tok) → Except (Nat × Int) (List Tok)
  | .ok r => .ok (ts ++ r)
  | .error e => .error e
theorem preP_tok (ts : List Tok) (t : Tok) (x : Except (Nat × Int) (List Tok)) : preP ts (match x with | .ok r => .ok (t :: r) | .error e => .error e) = preP (ts ++ [t]) x := by
  cases x <;> simp [preP]
end Go.Proofs.YtgpgmmkkmoecmaaGreatDoor

/- What scan's small functions compute. -/
namespace Go.Proofs.YtgpgmmkkmoecmaaGreatDoor
open Go.RowKit

theorem letter_any (c : Int) (w : World) (h0 : 0 ≤ c) (h1 : c ≤ 255) : Calls Tryz.prog 96 #[.int .u8 c] w fun e w' => e = .returned (.bool (decide (97 ≤ c) && decide (c ≤ 122))) ∧ w = w' := by
  by_cases h : 97 ≤ c
  · go_enter Tryz.func96, Tryz.ntmps96
    go_wp2
    go_ret
    exact ⟨ret_bool (by simp [h]), rfl⟩
  · go_enter Tryz.func96, Tryz.ntmps96
    go_wp2
    go_ret
    exact ⟨ret_bool (by simp; omega), rfl⟩
theorem digit_any (c : Int) (w : World) (h0 : 0 ≤ c) (h1 : c ≤ 255) : Calls Tryz.prog 97 #[.int .u8 c] w fun e w' => e = .returned (.bool (decide (48 ≤ c) && decide (c ≤ 57))) ∧ w = w' := by
  by_cases h : 48 ≤ c
  · go_enter Tryz.func97, Tryz.ntmps97
    go_wp2
    go_ret
    exact ⟨ret_bool (by simp [h]), rfl⟩
  · go_enter Tryz.func97, Tryz.ntmps97
    go_wp2
    go_ret
    exact ⟨ret_bool (by simp; omega), rfl⟩
theorem eol_any (c : Int) (w : World) : Calls Tryz.prog 95 #[.int .u8 c] w fun e w' => e = .returned (.bool (c != 10)) ∧ w = w' := by
  go_enter Tryz.func95, Tryz.ntmps95
  go_wp2
  go_ret
  exact ⟨rfl, rfl⟩
theorem letter_u (c : UInt8) (w : World) : Calls Tryz.prog 96 #[.int .u8 (c.toNat : Int)] w fun e w' => e = .returned (.bool (isLetter c)) ∧ w = w' := by
  have := c.toNat_lt
  refine (letter_any c.toNat w (by omega) (by omega)).mono ?_
  rintro e w' ⟨rfl, rfl⟩
  exact ⟨ret_bool (by unfold isLetter; congr 1 <;> (rw [decide_eq_decide]; omega)), rfl⟩
theorem digit_u (c : UInt8) (w : World) : Calls Tryz.prog 97 #[.int .u8 (c.toNat : Int)] w fun e w' => e = .returned (.bool (isDigit c)) ∧ w = w' := by
  have := c.toNat_lt
  refine (digit_any c.toNat w (by omega) (by omega)).mono ?_
  rintro e w' ⟨rfl, rfl⟩
  exact ⟨ret_bool (by unfold isDigit; congr 1 <;> (rw [decide_eq_decide]; omega)), rfl⟩
theorem eol_u (c : UInt8) (w : World) : Calls Tryz.prog 95 #[.int .u8 (c.toNat : Int)] w fun e w' => e = .returned (.bool (notEol c)) ∧ w = w' := by
  refine (eol_any c.toNat w).mono ?_
  rintro e w' ⟨rfl, rfl⟩
  refine ⟨ret_bool ?_, rfl⟩
  unfold notEol
  by_cases h : c.toNat = 10
  · simp [h]
  · have h' : ¬ (c.toNat : Int) = 10 := by omega
    simp [h, h']
theorem byte_nth (l : List UInt8) (k : Nat) (h : k < l.length) : ∀ h', (ByteArray.mk l.toArray)[k]'h' = nth 0 l k := by
  intro h'
  have e : (ByteArray.mk l.toArray)[k]'h' = l[k] := by simp [ByteArray.getElem_eq_getElem_data]
  rw [e]
  simp [nth, List.getD_eq_getElem?_getD, List.getElem?_eq_getElem h]
theorem run_letter (l : List UInt8) (w : World) (hl : l.length ≤ 140737488355328) : Calls Tryz.prog 94 #[.string ⟨l.toArray⟩, .func (.func 96) #[] #[]] w fun e w' => e = .returned (.int .i64 (runP isLetter l)) ∧ w = w' := by
  go_enter Tryz.func94, Tryz.ntmps94
  go_wp2
  go_loop [5] (fun i => ∃ k : Nat, i = .int .i64 k ∧ k ≤ l.length ∧ Hid (runP isLetter l = k + runP isLetter (l.drop k))) (fun i => l.length - (intOf i).toNat)
  case atStart => exact ⟨0, rfl, by omega, Lib.hid (by simp)⟩
  case round =>
    obtain ⟨k, rfl, hk, H⟩ := hrel
    by_cases hlt : k < l.length
    · have H' := Lib.hid (runP_drop isLetter l k hlt)
      cases hp : isLetter (nth 0 l k)
      · go_wp2_with (go_at_call 96; refine (letter_u _ _).mono ?_; rintro e w' ⟨rfl, rfl⟩; simp only [byte_nth l k hlt, hp])
        go_ret
        exact ⟨ret_int (by rw [H.out, H'.out, hp]; simp), rfl⟩
      · go_wp2_with (go_at_call 96; refine (letter_u _ _).mono ?_; rintro e w' ⟨rfl, rfl⟩; simp only [byte_nth l k hlt, hp])
        go_round
        case rel => exact ⟨k + 1, by go_num, by omega, Lib.hid (by rw [H.out, H'.out, hp]; simp; omega)⟩
        case measure => simp [intOf]; omega
    · go_wp2
      go_ret
      exact ⟨ret_int (by rw [H.out, List.drop_eq_nil_of_le (by omega)]; simp [runP]), rfl⟩
theorem run_digit (l : List UInt8) (w : World) (hl : l.length ≤ 140737488355328) : Calls Tryz.prog 94 #[.string ⟨l.toArray⟩, .func (.func 97) #[] #[]] w fun e w' => e = .returned (.int .i64 (runP isDigit l)) ∧ w = w' := by
  go_enter Tryz.func94, Tryz.ntmps94
  go_wp2
  go_loop [5] (fun i => ∃ k : Nat, i = .int .i64 k ∧ k ≤ l.length ∧ Hid (runP isDigit l = k + runP isDigit (l.drop k))) (fun i => l.length - (intOf i).toNat)
  case atStart => exact ⟨0, rfl, by omega, Lib.hid (by simp)⟩
  case round =>
    obtain ⟨k, rfl, hk, H⟩ := hrel
    by_cases hlt : k < l.length
    · have H' := Lib.hid (runP_drop isDigit l k hlt)
      cases hp : isDigit (nth 0 l k)
      · go_wp2_with (go_at_call 97; refine (digit_u _ _).mono ?_; rintro e w' ⟨rfl, rfl⟩; simp only [byte_nth l k hlt, hp])
        go_ret
        exact ⟨ret_int (by rw [H.out, H'.out, hp]; simp), rfl⟩
      · go_wp2_with (go_at_call 97; refine (digit_u _ _).mono ?_; rintro e w' ⟨rfl, rfl⟩; simp only [byte_nth l k hlt, hp])
        go_round
        case rel => exact ⟨k + 1, by go_num, by omega, Lib.hid (by rw [H.out, H'.out, hp]; simp; omega)⟩
        case measure => simp [intOf]; omega
    · go_wp2
      go_ret
      exact ⟨ret_int (by rw [H.out, List.drop_eq_nil_of_le (by omega)]; simp [runP]), rfl⟩
theorem run_eol (l : List UInt8) (w : World) (hl : l.length ≤ 140737488355328) : Calls Tryz.prog 94 #[.string ⟨l.toArray⟩, .func (.func 95) #[] #[]] w fun e w' => e = .returned (.int .i64 (runP notEol l)) ∧ w = w' := by
  go_enter Tryz.func94, Tryz.ntmps94
  go_wp2
  go_loop [5] (fun i => ∃ k : Nat, i = .int .i64 k ∧ k ≤ l.length ∧ Hid (runP notEol l = k + runP notEol (l.drop k))) (fun i => l.length - (intOf i).toNat)
  case atStart => exact ⟨0, rfl, by omega, Lib.hid (by simp)⟩
  case round =>
    obtain ⟨k, rfl, hk, H⟩ := hrel
    by_cases hlt : k < l.length
    · have H' := Lib.hid (runP_drop notEol l k hlt)
      cases hp : notEol (nth 0 l k)
      · go_wp2_with (go_at_call 95; refine (eol_u _ _).mono ?_; rintro e w' ⟨rfl, rfl⟩; simp only [byte_nth l k hlt, hp])
        go_ret
        exact ⟨ret_int (by rw [H.out, H'.out, hp]; simp), rfl⟩
      · go_wp2_with (go_at_call 95; refine (eol_u _ _).mono ?_; rintro e w' ⟨rfl, rfl⟩; simp only [byte_nth l k hlt, hp])
        go_round
        case rel => exact ⟨k + 1, by go_num, by omega, Lib.hid (by rw [H.out, H'.out, hp]; simp; omega)⟩
        case measure => simp [intOf]; omega
    · go_wp2
      go_ret
      exact ⟨ret_int (by rw [H.out, List.drop_eq_nil_of_le (by omega)]; simp [runP]), rfl⟩

theorem indexByte_any (l : List UInt8) (c : UInt8) (w : World) : Calls Tryz.prog 93 #[.string ⟨l.toArray⟩, .int .u8 (c.toNat : Int)] w fun e w' => e = .returned (.int .i64 (Lib.indexByte l c)) ∧ w = w' := by
  refine (Tryz.strings_IndexByte ⟨l.toArray⟩ c.toNat w).mono ?_
  rintro e w' ⟨rfl, rfl⟩
  exact ⟨ret_int (by simp), rfl⟩
end Go.Proofs.YtgpgmmkkmoecmaaGreatDoor
