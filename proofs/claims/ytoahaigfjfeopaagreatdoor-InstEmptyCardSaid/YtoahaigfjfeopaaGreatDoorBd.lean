/- Regions that draw their order, walked in one order, calls and writes among them: what is read is the same in every world that meets S. Plain lemmas over the model; no program. -/
import Derived.Test.YtoahaigfjfeopaaGreatDoorBb
import Derived.OrdersHeld
namespace Go.Proofs.YtoahaigfjfeopaaGreatDoor
open Go.RowKit

section
variable {P : Program} {ops : Array Oper} {Q : Exit → Act → World → Prop} {S : World → Prop}

/-- Behind operation j S is to be shown: it is marked, or some marked one may come behind it. -/
def mustB (ops : Array Oper) (ms : List Bool) (j : Nat) : Bool := ms.getD j false || !((List.range ops.size).all fun i => !(ms.getD i false) || Region.waitsFor .any ops j i)
/-- Whatever order is picked; S behind those that 'must' names. -/
def wpM (P : Program) (ops : Array Oper) (Q : Exit → Act → World → Prop) (S : World → Prop) (must : Nat → Bool) : Nat → Array Bool → Act → World → Prop
  | 0, listed, a, w => Region.ready .any ops listed = [] ∧ Q .normal a w
  | f + 1, listed, a, w => (Region.ready .any ops listed = [] → Q .normal a w) ∧
      ∀ i ∈ Region.ready .any ops listed, wpOp P ops Q i (fun a' w' => (must i = true → S w') ∧ wpM P ops Q S must f (listed.setIfInBounds i true) a' w') a w
theorem wpAny_of_M {must : Nat → Bool} : ∀ (f : Nat) (listed : Array Bool) (a : Act) (w : World), wpM P ops Q S must f listed a w → wpAny P .any ops Q f listed a w
  | 0, _, _, _, h => h
  | f + 1, _, _, _, h => ⟨h.1, fun i hi => wpOp_mono (fun a' w' h' => wpAny_of_M f _ a' w' h'.2) (h.2 i hi)⟩
theorem not_waits {i j : Nat} {oj : Oper} {listed : Array Bool} (hi : listed.getD i true = false) (hoj : ops[j]? = some oj) (hall : ∀ e ∈ oj.after, Region.binds .any e = true → listed.getD e.on false = true) : ∀ e ∈ oj.after, Region.binds .any e = true → e.on ≠ i := by
  intro e he hb heq
  have h1 := hall e he hb
  rw [heq, getD_both hi] at h1
  cases h1
theorem wpM_first {must : Nat → Bool} {i : Nat} {oi : Oper} {v : Value} (hi : ops[i]? = some oi) (hsel : ∀ (j : Nat) (o : Oper) cs b, ops[j]? = some o → o.op ≠ .select cs b)
    (hQ : ∀ c a w, Q (.panic c) (a.put oi.dst v) w → Q (.panic c) a w) (hm : ∀ j, must j = true ∨ Region.waitsFor .any ops j i = true) :
    ∀ (f : Nat) (listed : Array Bool) (a : Act) (w : World),
      (∀ j oj, ops[j]? = some oj → j ≠ i → listed.getD j true = false → (∀ e ∈ oj.after, Region.binds .any e = true → e.on ≠ i) → oi.apart ops oj = true) →
      i ∈ Region.ready .any ops listed → YieldsIf P ops S oi v a → S w →
      wpM P ops Q S must f (listed.setIfInBounds i true) (a.put oi.dst v) w → wpM P ops Q S must (f + 1) listed a w := by
  intro f
  induction f with
  | zero =>
    intro listed a w _ hr hy hS H
    refine ⟨fun h => (by rw [h] at hr; cases hr), fun j hj => ?_⟩
    by_cases hji : j = i
    · subst hji; exact hy.wpOp hi hS ⟨fun _ => hS, H⟩
    · have := ready_mono hj hji
      rw [H.1] at this
      cases this
  | succ f ih =>
    intro listed a w hfree hr hy hS H
    refine ⟨fun h => (by rw [h] at hr; cases hr), fun j hj => ?_⟩
    by_cases hji : j = i
    · subst hji; exact hy.wpOp hi hS ⟨fun _ => hS, H⟩
    · have h1 := H.2 j (ready_mono hj hji)
      obtain ⟨hjun, oj, hoj, hall⟩ := mem_ready.1 hj
      have hnot := not_waits (mem_ready.1 hr).1 hoj hall
      have hmj : must j = true := by
        rcases hm j with h | h
        · exact h
        · obtain ⟨oj', hoj', e, he, hb, hon⟩ := Region.waitsFor_spec h
          obtain rfl : oj' = oj := Option.some.inj (hoj'.symm.trans hoj)
          exact absurd hon (hnot e he hb)
      have h2 := wpOp_putIf hoj (hfree j oj hoj hji hjun hnot) (fun cs b => hsel i oi cs b hi) (fun cs b => hsel j oj cs b hoj) hQ hy h1
      refine wpOp_mono (fun a' w' h3 => ⟨h3.2.1, ih (listed.setIfInBounds j true) a' w' (fun k ok hk hki hun hno => ?_) (ready_mono hr (Ne.symm hji)) h3.1 (h3.2.1 hmj) ?_⟩) h2
      · refine hfree k ok hk hki ?_ hno
        by_cases hjk : j = k
        · subst hjk; exact hjun
        · rw [getD_set_ne true hjk] at hun; exact hun
      · rw [Array.setIfInBounds_comm _ _ hji]
        exact h3.2.2

/-- The order of the text serves: each marked operation may be taken first, each other stands alone. -/
def lexMB (ops : Array Oper) : List Bool → Nat → Array Bool → Bool
  | [], _, listed => (Region.ready .any ops listed).isEmpty
  | b :: m, k, listed => (if b then (Region.ready .any ops listed).contains k && Region.free .any ops listed k else decide (Region.ready .any ops listed = [k])) && lexMB ops m (k + 1) (listed.setIfInBounds k true)
def wpLex (P : Program) (ops : Array Oper) (Q : Exit → Act → World → Prop) (S : World → Prop) (ms : List Bool) : Nat → List Bool → List Oper → Act → World → Prop
  | k, true :: m, o :: rest, a, w => S w ∧ ∃ v, YieldsIf P ops S o v a ∧ wpLex P ops Q S ms (k + 1) m rest (a.put o.dst v) w
  | k, false :: m, o :: rest, a, w =>
    if Region.wanted o (yielded ops a.tmps) then o.wp P a w (fun a' w' => (mustB ops ms k = true → S w') ∧ wpLex P ops Q S ms (k + 1) m rest a' w') Q ∨ (o.asks P a w ∧ LetsOut Q)
    else (mustB ops ms k = true → S w) ∧ wpLex P ops Q S ms (k + 1) m rest (a.put o.dst undef) w
  | _, _, [], a, w => Q .normal a w
  | _, [], _ :: _, _, _ => False
theorem wpM_lex {ms : List Bool} (hsel : Region.noSelect ops = true) (hQ : ∀ c (a : Act) d v w, Q (.panic c) (a.put d v) w → Q (.panic c) a w) :
    ∀ (m : List Bool) (l : List Oper) (k : Nat) (listed : Array Bool) (a : Act) (w : World), (∀ j, l[j]? = ops[k + j]?) → (∀ j, m[j]? = ms[k + j]?) → m.length = l.length → lexMB ops m k listed = true → wpLex P ops Q S ms k m l a w →
      wpM P ops Q S (mustB ops ms) l.length listed a w
  | [], [], k, listed, a, w, _, _, _, hB, h => ⟨by simpa [lexMB] using hB, h⟩
  | [], _ :: _, _, _, _, _, _, _, hl, _, _ => by simp at hl
  | _ :: _, [], _, _, _, _, _, _, hl, _, _ => by simp at hl
  | b :: m, o :: l, k, listed, a, w, hops, hms, hl, hB, h => by
    have h0 : ops[k]? = some o := by simpa using (hops 0).symm
    have hops' : ∀ j, l[j]? = ops[k + 1 + j]? := fun j => by have := hops (j + 1); simpa [Nat.add_assoc, Nat.add_comm 1 j] using this
    have hms' : ∀ j, m[j]? = ms[k + 1 + j]? := fun j => by have := hms (j + 1); simpa [Nat.add_assoc, Nat.add_comm 1 j] using this
    have hl' : m.length = l.length := by simpa using hl
    simp only [lexMB, Bool.and_eq_true] at hB
    obtain ⟨hb, hB'⟩ := hB
    cases b with
    | true =>
      simp only [if_true, Bool.and_eq_true] at hb
      obtain ⟨hS, v, hy, hr⟩ := h
      refine wpM_first h0 (Region.noSelect_spec hsel) (fun c a w => hQ c a o.dst v w) (fun j => ?_) l.length listed a w (Region.free_spec h0 hb.2) (by simpa using hb.1) hy hS (wpM_lex hsel hQ m l (k + 1) _ _ w hops' hms' hl' hB' hr)
      by_cases hmu : mustB ops ms j = true
      · exact .inl hmu
      · refine .inr ?_
        have hmu := Bool.eq_false_iff.2 hmu
        simp only [mustB, Bool.or_eq_false_iff, Bool.not_eq_false', List.all_eq_true, List.mem_range, Bool.or_eq_true, Bool.not_eq_true'] at hmu
        have hk : ms.getD k false = true := by have := hms 0; simp at this; simp [← this]
        rcases hmu.2 k (Array.getElem?_eq_some_iff.1 h0).1 with h | h
        · rw [hk] at h; cases h
        · exact h
    | false =>
      simp only [Bool.false_eq_true, if_false, decide_eq_true_eq] at hb
      refine ⟨fun h1 => (by rw [hb] at h1; cases h1), fun i hi => ?_⟩
      rw [hb] at hi
      obtain rfl : i = k := by simpa using hi
      unfold wpOp
      simp only [h0]
      simp only [wpLex] at h
      split
      · rename_i hw
        rw [if_pos hw] at h
        exact h.imp (Oper.wp_mono (fun a' w' h' => ⟨h'.1, wpM_lex hsel hQ m l (i + 1) _ a' w' hops' hms' hl' hB' h'.2⟩)) id
      · rename_i hw
        rw [if_neg hw] at h
        exact ⟨h.1, wpM_lex hsel hQ m l (i + 1) _ _ w hops' hms' hl' hB' h.2⟩
/-- A region that draws its order, walked in the order of its text. 'ms': which operations only read, and may be taken first; S: what they read. -/
theorem wp_region_lex {id : Nat} {a : Act} {w : World} {l : List Oper} (S : World → Prop) (ms : List Bool) (hm : P.follows .mixedOrders = true) (hB : (Region.noSelect l.toArray && (lexMB l.toArray ms 0 (Array.replicate l.length false) && decide (ms.length = l.length))) = true)
    (hQ : ∀ c (a : Act) d v w, Q (.panic c) (a.put d v) w → Q (.panic c) a w)
    (h : wpLex P l.toArray Q S ms 0 ms l a { w with drawn := w.drawn + 1 }) : (Code.region id l.toArray true).wp P Q a w := by
  simp only [Bool.and_eq_true, decide_eq_true_eq] at hB
  refine wp_region_any hm (wpAny_of_M (S := S) (must := mustB l.toArray ms) _ _ _ _ ?_)
  have := wpM_lex (S := S) hB.1 hQ ms l 0 (Array.replicate l.length false) a { w with drawn := w.drawn + 1 } (fun j => by simp) (fun j => by simp) hB.2.2 hB.2.1 h
  simpa using this
/-! ### The steps -/
variable {ms m : List Bool} {k : Nat} {o : Oper} {rest : List Oper} {a : Act} {w : World}
theorem lex_take {v : Value} (hS : S w) (hg : o.guard = none) (hy : ∀ w', S w' → (execOp a.eval o).run P w' = .ok (.value v) w') (h : ∀ K : Act → World → Prop, (∀ a w, wpLex P ops Q S ms (k + 1) m rest a w → K a w) → K (a.put o.dst v) w) : wpLex P ops Q S ms k (true :: m) (o :: rest) a w :=
  ⟨hS, v, .inl ⟨by simp [Region.wanted, hg], hy⟩, h _ fun _ _ h => h⟩
theorem lex_take_on {v : Value} (i : Nat) (b : Bool) (oi : Oper) (d : Nat) (hS : S w) (hg : o.guard = some (i, b)) (hoi : ops[i]? = some oi) (hd : oi.dst = some d) (hv : a.tmps[d]? = some (.bool b))
    (hy : ∀ w', S w' → (execOp a.eval o).run P w' = .ok (.value v) w') (h : ∀ K : Act → World → Prop, (∀ a w, wpLex P ops Q S ms (k + 1) m rest a w → K a w) → K (a.put o.dst v) w) : wpLex P ops Q S ms k (true :: m) (o :: rest) a w :=
  ⟨hS, v, .inl ⟨by simp [Region.wanted, hg, yielded, hoi, hd, hv], hy⟩, h _ fun _ _ h => h⟩
theorem lex_take_off (i : Nat) (b c : Bool) (oi : Oper) (d : Nat) (hS : S w) (hg : o.guard = some (i, b)) (hoi : ops[i]? = some oi) (hd : oi.dst = some d) (hv : a.tmps[d]? = some (.bool c)) (hbc : (c == b) = false)
    (h : ∀ K : Act → World → Prop, (∀ a w, wpLex P ops Q S ms (k + 1) m rest a w → K a w) → K (a.put o.dst undef) w) : wpLex P ops Q S ms k (true :: m) (o :: rest) a w :=
  ⟨hS, undef, .inr ⟨by
    simp only [Region.wanted, hg, yielded, hoi, hd, hv, Option.bind_some]
    cases b <;> cases c <;> simp_all, rfl⟩, h _ fun _ _ h => h⟩
theorem lex_step (hg : o.guard = none) (h : ∀ K : Act → World → Prop, (∀ a w, S w → wpLex P ops Q S ms (k + 1) m rest a w → K a w) → o.wp P a w K Q) : wpLex P ops Q S ms k (false :: m) (o :: rest) a w := by
  unfold wpLex
  rw [if_pos (by simp [Region.wanted, hg])]
  exact .inl (h _ fun a' w' hS h' => ⟨fun _ => hS, h'⟩)
theorem lex_free (hg : o.guard = none) (hm : mustB ops ms k = false) (h : ∀ K : Act → World → Prop, (∀ a w, wpLex P ops Q S ms (k + 1) m rest a w → K a w) → o.wp P a w K Q) : wpLex P ops Q S ms k (false :: m) (o :: rest) a w := by
  unfold wpLex
  rw [if_pos (by simp [Region.wanted, hg])]
  exact .inl (h _ fun a' w' h' => ⟨fun h => (by rw [hm] at h; cases h), h'⟩)
theorem lex_nil (h : Q .normal a w) : wpLex P ops Q S ms k [] [] a w := h
/-- What is left stands alone, one behind the other, and S is wanted no more: an ordinary list. -/
def restB (ops : Array Oper) (ms : List Bool) : List Bool → Nat → Bool
  | [], _ => true
  | b :: m, k => !b && !mustB ops ms k && restB ops ms m (k + 1)
theorem lex_list : ∀ (m : List Bool) (l : List Oper) (k : Nat) (a : Act) (w : World), m.length = l.length → restB ops ms m k = true → wpList P ops Q l a w → wpLex P ops Q S ms k m l a w
  | [], [], _, _, _, _, _, h => h
  | [], _ :: _, _, _, _, hl, _, _ => by simp at hl
  | _ :: _, [], _, _, _, hl, _, _ => by simp at hl
  | b :: m, o :: l, k, a, w, hl, hB, h => by
    simp only [restB, Bool.and_eq_true, Bool.not_eq_true'] at hB
    obtain ⟨⟨rfl, hmu⟩, hB'⟩ := hB
    have hl' : m.length = l.length := by simpa using hl
    simp only [wpLex]
    simp only [wpList] at h
    split
    · rename_i hw
      rw [if_pos hw] at h
      exact h.imp (Oper.wp_mono fun a' w' h' => ⟨fun h => (by rw [hmu] at h; cases h), lex_list m l (k + 1) a' w' hl' hB' h'⟩) id
    · rename_i hw
      rw [if_neg hw] at h
      exact ⟨fun h => (by rw [hmu] at h; cases h), lex_list m l (k + 1) _ w hl' hB' h⟩
end
end Go.Proofs.YtoahaigfjfeopaaGreatDoor
