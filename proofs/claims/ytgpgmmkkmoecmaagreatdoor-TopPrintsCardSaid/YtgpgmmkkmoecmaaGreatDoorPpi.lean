/- Texts joined: Pr Ps Pt Pu Pxa Ptp Wtp Rs0 Rg Rf Rfb. -/
import Derived.Test.YtgpgmmkkmoecmaaGreatDoorPph
import Derived.Test.YtgpgmmkkmoecmaaGreatDoorPpg
import Derived.Deep.CutBlock
import Derived.Deep.CutRange
import Derived.Test.YtgpgmmkkmoecmaaGreatDoorPpa
import Derived.JoinedOf
/- The parser looks no further than where it tells that something is wrong. -/
namespace Go.Proofs.YtgpgmmkkmoecmaaGreatDoor

/-- What is told of tokens c with the end E behind them is told with anything behind them, but where the end itself is wrong; what is left (c2) is a part of c. -/
def LocR {α : Type} (c : List Tok) (E : Tok) (res : PR α) (run : List Tok → PR α) : Prop :=
  match res with
  | .error (p, x) => x ≠ 0 ∧ (p = E.at_ ∨ (∃ t ∈ c, p = t.at_) ∧ ∀ u, u ≠ [] → run u = .error (p, x))
  | .ok (v, r) => ∃ c1 c2, c = c1 ++ c2 ∧ r = c2 ++ [E] ∧ (c2 ≠ [] → ∀ u, u ≠ [] → run u = .ok (v, c2 ++ u))
/-- .. and what is left goes on with whatever comes. -/
def LocS {α : Type} (c : List Tok) (E : Tok) (res : PR α) (run : List Tok → PR α) : Prop :=
  match res with
  | .error (p, x) => x ≠ 0 ∧ (p = E.at_ ∨ (∃ t ∈ c, p = t.at_) ∧ ∀ u, u ≠ [] → run u = .error (p, x))
  | .ok (v, r) => ∃ c1 c2, c = c1 ++ c2 ∧ c1 ≠ [] ∧ r = c2 ++ [E] ∧ ∀ u, run u = .ok (v, c2 ++ u)
theorem LocR.err {α : Type} {c : List Tok} {E : Tok} {run : List Tok → PR α} {p x : Int} (hx : x ≠ 0) (h : p = E.at_ ∨ (∃ t ∈ c, p = t.at_) ∧ ∀ u, u ≠ [] → run u = .error (p, x)) : LocR c E (.error (p, x)) run := ⟨hx, h⟩
theorem loc_num (m : Int) (c : List Tok) (E : Tok) (hE : E.kind = 4) : LocS c E (numberQ m (c ++ [E])) (fun u => numberQ m (c ++ u)) := by
  cases c with
  | nil =>
    have : numberQ m ([] ++ [E]) = .error (E.at_, 3) := by simp [numberQ, hE]
    rw [this]; exact ⟨by decide, .inl rfl⟩
  | cons t q =>
    rw [List.cons_append]
    rcases numberQ_cases m t (q ++ [E]) with ⟨h, hk⟩ | ⟨h, hk, hs⟩ | ⟨h, hk, hs⟩
    · rw [h]
      refine ⟨by decide, .inr ⟨⟨t, List.mem_cons_self .., rfl⟩, fun u _ => ?_⟩⟩
      simp [numberQ, hk]
    · rw [h]
      refine ⟨by decide, .inr ⟨⟨t, List.mem_cons_self .., rfl⟩, fun u _ => ?_⟩⟩
      simp [numberQ, hk, hs]
    · rw [h]
      refine ⟨[t], q, rfl, by simp, rfl, fun u => ?_⟩
      simp [numberQ, hk, hs]
theorem loc_sign (s : List UInt8) (c : List Tok) (E : Tok) (hE : E.kind = 4) : LocS c E (signQ s (c ++ [E])) (fun u => signQ s (c ++ u)) := by
  cases c with
  | nil =>
    have : signQ s ([] ++ [E]) = .error (E.at_, 3) := by simp [signQ, isP, hE]
    rw [this]; exact ⟨by decide, .inl rfl⟩
  | cons t q =>
    rw [List.cons_append, signQ]
    split
    · rename_i hp
      exact ⟨[t], q, rfl, by simp, rfl, fun u => by simp [signQ, hp]⟩
    · rename_i hp
      exact ⟨by decide, .inr ⟨⟨t, List.mem_cons_self .., rfl⟩, fun u _ => by simp [signQ, hp]⟩⟩
theorem loc_var (nd : Nat) (l : List Int) (c : List Tok) (E : Tok) (hE : E.kind = 4) : LocS c E (varQ nd l (c ++ [E])) (fun u => varQ nd l (c ++ u)) := by
  cases c with
  | nil =>
    have : varQ nd l ([] ++ [E]) = .error (E.at_, 3) := by simp [varQ, numberQ, hE]
    rw [this]; exact ⟨by decide, .inl rfl⟩
  | cons t q =>
    have hl := loc_num 1000000000000 (t :: q) E hE
    have e : ∀ u, varQ nd l (t :: q ++ u) = match numberQ 1000000000000 (t :: q ++ u) with
      | .error e => .error e
      | .ok _ => if 6 ≤ l.length then .error (t.at_, 7) else if 0 ≤ t.n ∧ t.n < nd ∧ (l.length = 0 ∨ lastI l < t.n) then .ok (l ++ [t.n], q ++ u) else .error (t.at_, 5) := fun u => by rw [List.cons_append, varQ]; rfl
    rw [e]
    cases hn : numberQ 1000000000000 (t :: q ++ [E]) with
    | error p =>
      obtain ⟨p, x⟩ := p
      rw [hn] at hl
      exact ⟨hl.1, hl.2.imp_right fun h => ⟨h.1, fun u hu => by simp only [e, h.2 u hu]⟩⟩
    | ok r =>
      obtain ⟨v, r⟩ := r
      rw [hn] at hl
      obtain ⟨c1, c2, hc, _, _, hu⟩ := hl
      simp only
      split
      · rename_i h6
        exact ⟨by decide, .inr ⟨⟨t, List.mem_cons_self .., rfl⟩, fun u _ => by simp only [e, hu u]; rw [if_pos h6]⟩⟩
      · rename_i h6
        split
        · rename_i hc3
          exact ⟨[t], q, rfl, by simp, rfl, fun u => by simp only [e, hu u]; rw [if_neg h6, if_pos hc3]⟩
        · rename_i hc3
          exact ⟨by decide, .inr ⟨⟨t, List.mem_cons_self .., rfl⟩, fun u _ => by simp only [e, hu u]; rw [if_neg h6, if_neg hc3]⟩⟩
/-- .. whatever is left, nothing too; nothing need have been read. -/
def LocV {α : Type} (c : List Tok) (E : Tok) (res : PR α) (run : List Tok → PR α) : Prop :=
  match res with
  | .error (p, x) => x ≠ 0 ∧ (p = E.at_ ∨ (∃ t ∈ c, p = t.at_) ∧ ∀ u, u ≠ [] → run u = .error (p, x))
  | .ok (v, r) => ∃ c1 c2, c = c1 ++ c2 ∧ r = c2 ++ [E] ∧ ∀ u, run u = .ok (v, c2 ++ u)
theorem loc_vals (doms : List (List Int)) : ∀ (scope : List Int) (c : List Tok) (E : Tok), E.kind = 4 → LocV c E (valsQ doms scope (c ++ [E])) (fun u => valsQ doms scope (c ++ u))
  | [], c, E, _ => ⟨[], c, rfl, rfl, fun u => rfl⟩
  | s :: ss, c, E, hE => by
    have hl := loc_num 1000000 c E hE
    cases hn : numberQ 1000000 (c ++ [E]) with
    | error p =>
      obtain ⟨p, x⟩ := p
      rw [hn] at hl
      rw [valsQ, hn]
      exact ⟨hl.1, hl.2.imp_right fun h => ⟨h.1, fun u hu => by simp only [valsQ, h.2 u hu]⟩⟩
    | ok r =>
      obtain ⟨v, r⟩ := r
      rw [hn] at hl
      obtain ⟨c1, c2, rfl, hne, rfl, hu⟩ := hl
      have hv := (numberQ_s hn).1
      have hmem : v ∈ c1 ++ c2 := by
        cases c1 with
        | nil => exact absurd rfl hne
        | cons t q => rw [List.cons_append, List.cons_append] at hv; injection hv with hv _; rw [hv]; exact List.mem_cons_self ..
      rw [valsQ, hn]
      simp only
      split
      · rename_i hin
        have ih := loc_vals doms ss c2 E hE
        cases hq : valsQ doms ss (c2 ++ [E]) with
        | error p =>
          obtain ⟨p, x⟩ := p
          rw [hq] at ih
          exact ⟨ih.1, ih.2.imp_right fun h => ⟨by obtain ⟨t, ht, e⟩ := h.1; exact ⟨t, List.mem_append_right _ ht, e⟩, fun u hu2 => by
            have h3 : valsQ doms ss (c2 ++ u) = _ := h.2 u hu2
            simp only [valsQ, hu u]; rw [if_pos hin, h3]⟩⟩
        | ok r =>
          obtain ⟨ns, r⟩ := r
          rw [hq] at ih
          obtain ⟨d1, d2, rfl, rfl, hd⟩ := ih
          exact ⟨c1 ++ d1, d2, by simp, rfl, fun u => by
            have h3 : valsQ doms ss (d1 ++ d2 ++ u) = _ := hd u
            simp only [valsQ, hu u]; rw [if_pos hin, h3]⟩
      · rename_i hin
        exact ⟨by decide, .inr ⟨⟨v, hmem, rfl⟩, fun u _ => by simp only [valsQ, hu u]; rw [if_neg hin]⟩⟩
theorem loc_row (doms : List (List Int)) (scope : List Int) (ahead : List (List Int)) (c : List Tok) (E : Tok) (hE : E.kind = 4) : LocV c E (rowQ doms scope ahead (c ++ [E])) (fun u => rowQ doms scope ahead (c ++ u)) := by
  have hl := loc_vals doms scope c E hE
  cases hn : valsQ doms scope (c ++ [E]) with
  | error p =>
    obtain ⟨p, x⟩ := p
    rw [hn] at hl
    rw [rowQ, hn]
    exact ⟨hl.1, hl.2.imp_right fun h => ⟨h.1, fun u hu => by simp only [rowQ, h.2 u hu]⟩⟩
  | ok r =>
    obtain ⟨v, r⟩ := r
    rw [hn] at hl
    obtain ⟨c1, c2, hcc, rfl, hu⟩ := hl
    rw [rowQ, hn]
    simp only
    split
    · rename_i hc
      exact ⟨c1, c2, hcc, rfl, fun u => by simp only [rowQ, hu u]; rw [if_pos hc]⟩
    · rename_i hc
      cases c with
      | nil => exact ⟨by decide, .inl rfl⟩
      | cons t q =>
        exact ⟨by decide, .inr ⟨⟨t, List.mem_cons_self .., rfl⟩, fun u hu2 => by
          simp only [rowQ, hu u]
          rw [if_neg hc]; rfl⟩⟩
theorem isP_end {E : Tok} (hE : E.kind = 4) (s : List UInt8) : isP E s = false := by simp [isP, hE]
theorem loc_rows (doms : List (List Int)) (scope : List Int) : ∀ (n : Nat) (ahead : List (List Int)) (c : List Tok) (E : Tok), E.kind = 4 → c.length < n → ∀ n', n ≤ n' → LocR c E (rowsQ doms scope n ahead (c ++ [E])) (fun u => rowsQ doms scope n' ahead (c ++ u))
  | 0, ahead, c, E, _, hn, _, _ => by omega
  | n + 1, ahead, c, E, hE, hlen, 0, hn' => by omega
  | n + 1, ahead, c, E, hE, hlen, n' + 1, hn' => by
    have hl := loc_row doms scope ahead c E hE
    cases hn : rowQ doms scope ahead (c ++ [E]) with
    | error p =>
      obtain ⟨p, x⟩ := p
      rw [hn] at hl
      rw [rowsQ, hn]
      exact ⟨hl.1, hl.2.imp_right fun h => ⟨h.1, fun u hu => by simp only [rowsQ, h.2 u hu]⟩⟩
    | ok r =>
      obtain ⟨rows, r⟩ := r
      rw [hn] at hl
      obtain ⟨c1, c2, rfl, rfl, hu⟩ := hl
      rw [rowsQ, hn]
      simp only
      cases c2 with
      | nil =>
        rw [if_neg (by simp [isQ, isP_end hE])]
        exact ⟨c1, [], rfl, rfl, fun h => absurd rfl h⟩
      | cons t q =>
        by_cases hp : isP t [44] = true
        · rw [if_pos (by simp [isQ, hp]), show (isQ [44] (t :: q ++ [E])).2 = q ++ [E] by simp [isQ, hp]]
          have ih := loc_rows doms scope n rows q E hE (by simp at hlen; omega) n' (by omega)
          have hrun : ∀ u, rowsQ doms scope (n' + 1) ahead (c1 ++ t :: q ++ u) = rowsQ doms scope n' rows (q ++ u) := fun u => by
            have h3 : rowQ doms scope ahead (c1 ++ t :: q ++ u) = _ := hu u
            rw [rowsQ, h3]; simp only [List.cons_append]; rw [if_pos (by simp [isQ, hp]), show (isQ [44] (t :: (q ++ u))).2 = q ++ u by simp [isQ, hp]]
          cases hq : rowsQ doms scope n rows (q ++ [E]) with
          | error p =>
            obtain ⟨p, x⟩ := p
            rw [hq] at ih
            exact ⟨ih.1, ih.2.imp_right fun h => ⟨by obtain ⟨t', ht, e⟩ := h.1; exact ⟨t', List.mem_append_right _ (List.mem_cons_of_mem _ ht), e⟩, fun u hu2 => (hrun u).trans (h.2 u hu2)⟩⟩
          | ok r =>
            obtain ⟨ns, r⟩ := r
            rw [hq] at ih
            obtain ⟨d1, d2, rfl, rfl, hd⟩ := ih
            exact ⟨c1 ++ t :: d1, d2, by simp, rfl, fun h u hu2 => (hrun u).trans (hd h u hu2)⟩
        · rw [if_neg (by simp [isQ, hp])]
          refine ⟨c1, t :: q, rfl, rfl, fun _ u _ => ?_⟩
          have h3 : rowQ doms scope ahead (c1 ++ t :: q ++ u) = _ := hu u
          simp only [rowsQ, h3]
          rw [if_neg (by simp [isQ, hp])]
theorem loc_table (doms : List (List Int)) (scope : List Int) (c : List Tok) (E : Tok) (hE : E.kind = 4) : LocR c E (tableQ doms scope (c ++ [E])) (fun u => tableQ doms scope (c ++ u)) := by
  have hl := loc_sign [58] c E hE
  cases hn : signQ [58] (c ++ [E]) with
  | error p =>
    obtain ⟨p, x⟩ := p
    rw [hn] at hl
    rw [tableQ, hn]
    exact ⟨hl.1, hl.2.imp_right fun h => ⟨h.1, fun u hu => by simp only [tableQ, h.2 u hu]⟩⟩
  | ok r =>
    obtain ⟨v, r⟩ := r
    rw [hn] at hl
    obtain ⟨c1, c2, rfl, hne, rfl, hu⟩ := hl
    rw [tableQ, hn]
    simp only
    by_cases hh : c2 ≠ [] ∧ (nth default (c2 ++ [E]) 0).kind = 3 ∧ (nth default (c2 ++ [E]) 0).text = [59]
    · rw [if_pos hh.2]
      refine ⟨c1, c2, rfl, rfl, fun _ u _ => ?_⟩
      simp only [tableQ, hu u]
      rw [if_pos]
      cases c2 with
      | nil => exact absurd rfl hh.1
      | cons t q => exact hh.2
    · have hng : ¬ ((nth default (c2 ++ [E]) 0).kind = 3 ∧ (nth default (c2 ++ [E]) 0).text = [59]) := by
        intro hx
        apply hh
        refine ⟨?_, hx⟩
        intro e
        subst e
        have : E.kind = 3 := hx.1
        omega
      rw [if_neg hng]
      cases c2 with
      | nil =>
        have ih := loc_rows doms scope (([] ++ [E]).length + 1) [] [] E hE (by simp) _ (Nat.le_refl _)
        cases hq : rowsQ doms scope (([] ++ [E]).length + 1) [] ([] ++ [E]) with
        | error p =>
          obtain ⟨p, x⟩ := p
          rw [hq] at ih
          refine ⟨ih.1, .inl ?_⟩
          rcases ih.2 with h | h
          · exact h
          · obtain ⟨t, ht, _⟩ := h.1; simp at ht
        | ok r =>
          obtain ⟨ns, r⟩ := r
          rw [hq] at ih
          obtain ⟨d1, d2, hd0, rfl, hd⟩ := ih
          have : d2 = [] := by
            have := congrArg List.length hd0
            simp at this
            exact List.eq_nil_of_length_eq_zero (by omega)
          subst this
          exact ⟨c1, [], by simp, rfl, fun h => absurd rfl h⟩
      | cons t q =>
        have ih := fun n' h => loc_rows doms scope ((t :: q ++ [E]).length + 1) [] (t :: q) E hE (by simp) n' h
        have hrun : ∀ u, tableQ doms scope (c1 ++ t :: q ++ u) = rowsQ doms scope ((t :: q ++ u).length + 1) [] (t :: q ++ u) := fun u => by
          have h3 : signQ [58] (c1 ++ t :: q ++ u) = _ := hu u
          rw [tableQ, h3]
          simp only
          rw [if_neg]
          exact hng
        cases hq : rowsQ doms scope ((t :: q ++ [E]).length + 1) [] (t :: q ++ [E]) with
        | error p =>
          obtain ⟨p, x⟩ := p
          rw [hq] at ih
          refine ⟨(ih _ (Nat.le_refl _)).1, ?_⟩
          rcases (ih _ (Nat.le_refl _)).2 with h | h
          · exact .inl h
          · by_cases hpe : p = E.at_
            · exact .inl hpe
            · refine .inr ⟨by obtain ⟨t', ht, e⟩ := h.1; exact ⟨t', List.mem_append_right _ ht, e⟩, fun u hu2 => ?_⟩
              have hlen : (t :: q ++ [E]).length + 1 ≤ (t :: q ++ u).length + 1 := by
                have := List.length_pos_iff.2 hu2
                simp; omega
              rcases (ih _ hlen).2 with h4 | h4
              · exact absurd h4 hpe
              · exact (hrun u).trans (h4.2 u hu2)
        | ok r =>
          obtain ⟨ns, r⟩ := r
          rw [hq] at ih
          obtain ⟨d1, d2, hd0, hr, _⟩ := ih _ (Nat.le_refl _)
          refine ⟨c1 ++ d1, d2, by rw [hd0]; simp, hr, fun h u hu2 => ?_⟩
          have hlen : (t :: q ++ [E]).length + 1 ≤ (t :: q ++ u).length + 1 := by
            have := List.length_pos_iff.2 hu2
            simp; omega
          obtain ⟨e1, e2, he0, hr2, he⟩ := ih _ hlen
          have : e2 = d2 := by
            rw [hr] at hr2
            exact (List.append_inj_left' hr2 rfl).symm
          subst this
          exact (hrun u).trans (he h u hu2)
theorem loc_scope (nd : Nat) : ∀ (c : List Tok) (acc : List Int) (E : Tok), E.kind = 4 → LocR c E (scopeQ nd (c ++ [E]) acc) (fun u => scopeQ nd (c ++ u) acc)
  | [], acc, E, hE => by
    rw [List.nil_append, scopeQ]
    split
    · exact ⟨[], [], rfl, rfl, fun h => absurd rfl h⟩
    · have : varQ nd acc [E] = .error (E.at_, 3) := by simp [varQ, numberQ, hE]
      rw [this]
      exact ⟨by decide, .inl rfl⟩
  | t :: q, acc, E, hE => by
    have hl := loc_var nd acc (t :: q) E hE
    rw [List.cons_append, scopeQ]
    split
    · rename_i h0
      exact ⟨[], t :: q, rfl, rfl, fun _ u _ => by simp only [List.cons_append, scopeQ]; rw [if_pos h0]⟩
    · rename_i h0
      rw [← List.cons_append]
      cases hn : varQ nd acc (t :: q ++ [E]) with
      | error p =>
        obtain ⟨p, x⟩ := p
        rw [hn] at hl
        exact ⟨hl.1, hl.2.imp_right fun h => ⟨h.1, fun u hu => by
          have h3 : varQ nd acc (t :: q ++ u) = _ := h.2 u hu
          simp only [List.cons_append, scopeQ] at h3 ⊢
          rw [if_neg h0, h3]⟩⟩
      | ok r =>
        obtain ⟨l1, r⟩ := r
        rw [hn] at hl
        obtain ⟨c1, c2, hc, _, _, hu⟩ := hl
        have ih := loc_scope nd q l1 E hE
        have hrun : ∀ u, scopeQ nd (t :: q ++ u) acc = scopeQ nd (q ++ u) l1 := fun u => by
          have h3 : varQ nd acc (t :: q ++ u) = _ := hu u
          simp only [List.cons_append, scopeQ] at h3 ⊢
          rw [if_neg h0, h3]
        simp only
        cases hq : scopeQ nd (q ++ [E]) l1 with
        | error p =>
          obtain ⟨p, x⟩ := p
          rw [hq] at ih
          exact ⟨ih.1, ih.2.imp_right fun h => ⟨by obtain ⟨t', ht, e⟩ := h.1; exact ⟨t', List.mem_cons_of_mem _ ht, e⟩, fun u hu2 => (hrun u).trans (h.2 u hu2)⟩⟩
        | ok r =>
          obtain ⟨ns, r⟩ := r
          rw [hq] at ih
          obtain ⟨d1, d2, rfl, rfl, hd⟩ := ih
          exact ⟨t :: d1, d2, rfl, rfl, fun h u hu2 => (hrun u).trans (hd h u hu2)⟩
theorem loc_dom : ∀ (c : List Tok) (acc : List Int) (E : Tok), E.kind = 4 → LocR c E (domQ (c ++ [E]) acc) (fun u => domQ (c ++ u) acc)
  | [], acc, E, hE => by
    rw [List.nil_append, domQ]
    split
    · exact ⟨[], [], rfl, rfl, fun h => absurd rfl h⟩
    · have : numberQ 1000000 [E] = .error (E.at_, 3) := by simp [numberQ, hE]
      rw [this]
      exact ⟨by decide, .inl rfl⟩
  | t :: q, acc, E, hE => by
    have hl := loc_num 1000000 (t :: q) E hE
    rw [List.cons_append, domQ]
    split
    · rename_i h0
      exact ⟨[], t :: q, rfl, rfl, fun _ u _ => by simp only [List.cons_append, domQ]; rw [if_pos h0]⟩
    · rename_i h0
      rw [← List.cons_append]
      cases hn : numberQ 1000000 (t :: q ++ [E]) with
      | error p =>
        obtain ⟨p, x⟩ := p
        rw [hn] at hl
        exact ⟨hl.1, hl.2.imp_right fun h => ⟨h.1, fun u hu => by
          have h3 : numberQ 1000000 (t :: q ++ u) = _ := h.2 u hu
          simp only [List.cons_append, domQ] at h3 ⊢
          rw [if_neg h0, h3]⟩⟩
      | ok r =>
        obtain ⟨l1, r⟩ := r
        rw [hn] at hl
        obtain ⟨c1, c2, hc, _, _, hu⟩ := hl
        have hrun : ∀ u, domQ (t :: q ++ u) acc = if 16 ≤ acc.length then .error (t.at_, 7) else if acc.length ≠ 0 ∧ t.n ≤ lastI acc then .error (t.at_, 6) else domQ (q ++ u) (acc ++ [t.n]) := fun u => by
          have h3 : numberQ 1000000 (t :: q ++ u) = _ := hu u
          simp only [List.cons_append, domQ] at h3 ⊢
          rw [if_neg h0, h3]
        simp only
        split
        · rename_i h16
          exact ⟨by decide, .inr ⟨⟨t, List.mem_cons_self .., rfl⟩, fun u _ => by simp only [hrun u]; rw [if_pos h16]⟩⟩
        · rename_i h16
          split
          · rename_i hlt
            exact ⟨by decide, .inr ⟨⟨t, List.mem_cons_self .., rfl⟩, fun u _ => by simp only [hrun u]; rw [if_neg h16, if_pos hlt]⟩⟩
          · rename_i hlt
            have ih := loc_dom q (acc ++ [t.n]) E hE
            have hrun2 : ∀ u, domQ (t :: q ++ u) acc = domQ (q ++ u) (acc ++ [t.n]) := fun u => by rw [hrun u, if_neg h16, if_neg hlt]
            cases hq : domQ (q ++ [E]) (acc ++ [t.n]) with
            | error p =>
              obtain ⟨p, x⟩ := p
              rw [hq] at ih
              exact ⟨ih.1, ih.2.imp_right fun h => ⟨by obtain ⟨t', ht, e⟩ := h.1; exact ⟨t', List.mem_cons_of_mem _ ht, e⟩, fun u hu2 => (hrun2 u).trans (h.2 u hu2)⟩⟩
            | ok r =>
              obtain ⟨ns, r⟩ := r
              rw [hq] at ih
              obtain ⟨d1, d2, rfl, rfl, hd⟩ := ih
              exact ⟨t :: d1, d2, rfl, rfl, fun h u hu2 => (hrun2 u).trans (hd h u hu2)⟩
/-- One thing behind another: the first leaves what it leaves, the second goes on with it. -/
theorem LocR.bind {α β : Type} {c : List Tok} {E : Tok} {res : PR α} {run : List Tok → PR α} {f : α → List Tok → PR β} (g : List Tok → PR β) (gE : PR β)
    (h1 : LocR c E res run) (hE : gE = (match res with | .error e => .error e | .ok (v, r) => f v r)) (hg : ∀ u, g u = (match run u with | .error e => .error e | .ok (v, r) => f v r))
    (h2 : ∀ v c1 c2, c = c1 ++ c2 → LocR c2 E (f v (c2 ++ [E])) (fun u => f v (c2 ++ u)))
    (h3 : ∀ v, ∃ x, f v [E] = .error (E.at_, x) ∧ x ≠ 0) : LocR c E gE g := by
  cases res with
  | error p =>
    obtain ⟨p, x⟩ := p
    rw [hE]
    exact ⟨h1.1, h1.2.imp_right fun h => ⟨h.1, fun u hu => by rw [hg, h.2 u hu]⟩⟩
  | ok r =>
    obtain ⟨v, r⟩ := r
    obtain ⟨c1, c2, hc, rfl, hu⟩ := h1
    rw [hE]
    simp only
    by_cases hn : c2 = []
    · subst hn
      obtain ⟨x, hx, hx0⟩ := h3 v
      rw [List.nil_append, hx]
      exact ⟨hx0, .inl rfl⟩
    · have ih := h2 v c1 c2 hc
      have hrun : ∀ u, u ≠ [] → g u = f v (c2 ++ u) := fun u hu2 => by rw [hg, hu hn u hu2]
      cases hq : f v (c2 ++ [E]) with
      | error p =>
        obtain ⟨p, x⟩ := p
        rw [hq] at ih
        exact ⟨ih.1, ih.2.imp_right fun h => ⟨by obtain ⟨t', ht, e⟩ := h.1; exact ⟨t', by rw [hc]; exact List.mem_append_right _ ht, e⟩, fun u hu2 => (hrun u hu2).trans (h.2 u hu2)⟩⟩
      | ok r =>
        obtain ⟨ns, r⟩ := r
        rw [hq] at ih
        obtain ⟨d1, d2, hd0, rfl, hd⟩ := ih
        exact ⟨c1 ++ d1, d2, by rw [hc, hd0]; simp, rfl, fun h u hu2 => (hrun u hu2).trans (hd h u hu2)⟩
/-- .. where the first leaves what it leaves whatever comes. -/
theorem LocV.bind {α β : Type} {c : List Tok} {E : Tok} {res : PR α} {run : List Tok → PR α} {f : α → List Tok → PR β} (g : List Tok → PR β) (gE : PR β)
    (h1 : LocV c E res run) (hE : gE = (match res with | .error e => .error e | .ok (v, r) => f v r)) (hg : ∀ u, g u = (match run u with | .error e => .error e | .ok (v, r) => f v r))
    (h2 : ∀ v c1 c2, c = c1 ++ c2 → LocR c2 E (f v (c2 ++ [E])) (fun u => f v (c2 ++ u))) : LocR c E gE g := by
  cases res with
  | error p =>
    obtain ⟨p, x⟩ := p
    rw [hE]
    exact ⟨h1.1, h1.2.imp_right fun h => ⟨h.1, fun u hu => by rw [hg, h.2 u hu]⟩⟩
  | ok r =>
    obtain ⟨v, r⟩ := r
    obtain ⟨c1, c2, hc, rfl, hu⟩ := h1
    rw [hE]
    simp only
    have ih := h2 v c1 c2 hc
    have hrun : ∀ u, g u = f v (c2 ++ u) := fun u => by rw [hg, hu u]
    cases hq : f v (c2 ++ [E]) with
    | error p =>
      obtain ⟨p, x⟩ := p
      rw [hq] at ih
      exact ⟨ih.1, ih.2.imp_right fun h => ⟨by obtain ⟨t', ht, e⟩ := h.1; exact ⟨t', by rw [hc]; exact List.mem_append_right _ ht, e⟩, fun u hu2 => (hrun u).trans (h.2 u hu2)⟩⟩
    | ok r =>
      obtain ⟨ns, r⟩ := r
      rw [hq] at ih
      obtain ⟨d1, d2, hd0, rfl, hd⟩ := ih
      exact ⟨c1 ++ d1, d2, by rw [hc, hd0]; simp, rfl, fun h u hu2 => (hrun u).trans (hd h u hu2)⟩
theorem LocS.toV {α : Type} {c : List Tok} {E : Tok} {res : PR α} {run : List Tok → PR α} (h : LocS c E res run) : LocV c E res run := by
  cases res with
  | error p => obtain ⟨p, x⟩ := p; exact h
  | ok r =>
    obtain ⟨v, r⟩ := r
    obtain ⟨c1, c2, hc, _, hr, hu⟩ := h
    exact ⟨c1, c2, hc, hr, hu⟩
theorem LocV.toR {α : Type} {c : List Tok} {E : Tok} {res : PR α} {run : List Tok → PR α} (h : LocV c E res run) : LocR c E res run := by
  cases res with
  | error p => obtain ⟨p, x⟩ := p; exact h
  | ok r =>
    obtain ⟨v, r⟩ := r
    obtain ⟨c1, c2, hc, hr, hu⟩ := h
    exact ⟨c1, c2, hc, hr, fun _ u _ => hu u⟩
end Go.Proofs.YtgpgmmkkmoecmaaGreatDoor

/- The parser looks no further than where it tells that something is wrong (statements). -/
namespace Go.Proofs.YtgpgmmkkmoecmaaGreatDoor

/-- One thing behind another. -/
def bnd {α β : Type} (res : PR α) (f : α → List Tok → PR β) : PR β := match res with
  | .error e => .error e
  | .ok (v, r) => f v r
/-- As LocR; what is wrong may be a token of d. -/
def LocW {α : Type} (d c : List Tok) (E : Tok) (res : PR α) (run : List Tok → PR α) : Prop :=
  match res with
  | .error (p, x) => x ≠ 0 ∧ (p = E.at_ ∨ (∃ t ∈ d, p = t.at_) ∧ ∀ u, u ≠ [] → run u = .error (p, x))
  | .ok (v, r) => ∃ c1 c2, c = c1 ++ c2 ∧ r = c2 ++ [E] ∧ (c2 ≠ [] → ∀ u, u ≠ [] → run u = .ok (v, c2 ++ u))
theorem LocR.toW {α : Type} {c d : List Tok} {E : Tok} {res : PR α} {run : List Tok → PR α} (h : LocR c E res run) (hd : ∀ t ∈ c, t ∈ d) : LocW d c E res run := by
  cases res with
  | error p =>
    obtain ⟨p, x⟩ := p
    exact ⟨h.1, h.2.imp_right fun h => ⟨by obtain ⟨t, ht, e⟩ := h.1; exact ⟨t, hd t ht, e⟩, h.2⟩⟩
  | ok r => exact h
theorem LocW.bind {α β : Type} {c : List Tok} {E : Tok} {res : PR α} {run : List Tok → PR α} {f : α → List Tok → PR β} {d : List Tok} (g : List Tok → PR β) (gE : PR β)
    (h1 : LocR c E res run) (hcd : ∀ t ∈ c, t ∈ d) (hE : gE = bnd res f) {f' : α → List Tok → PR β} (hg : ∀ u, g u = bnd (run u) f')
    (h2 : ∀ v c1 c2, c = c1 ++ c2 → c2 ≠ [] → res = .ok (v, c2 ++ [E]) → LocW d c2 E (f v (c2 ++ [E])) (fun u => f' v (c2 ++ u)))
    (h3 : ∀ v, ∃ x, f v [E] = .error (E.at_, x) ∧ x ≠ 0) : LocW d c E gE g := by
  cases res with
  | error p =>
    obtain ⟨p, x⟩ := p
    rw [hE]
    exact ⟨h1.1, h1.2.imp_right fun h => ⟨by obtain ⟨t, ht, e⟩ := h.1; exact ⟨t, hcd t ht, e⟩, fun u hu => by rw [hg, h.2 u hu]; rfl⟩⟩
  | ok r =>
    obtain ⟨v, r⟩ := r
    obtain ⟨c1, c2, hc, rfl, hu⟩ := h1
    rw [hE]
    simp only [bnd]
    by_cases hn : c2 = []
    · subst hn
      obtain ⟨x, hx, hx0⟩ := h3 v
      rw [List.nil_append, hx]
      exact ⟨hx0, .inl rfl⟩
    · have ih := h2 v c1 c2 hc hn rfl
      have hrun : ∀ u, u ≠ [] → g u = f' v (c2 ++ u) := fun u hu2 => by rw [hg, hu hn u hu2]; rfl
      cases hq : f v (c2 ++ [E]) with
      | error p =>
        obtain ⟨p, x⟩ := p
        rw [hq] at ih
        exact ⟨ih.1, ih.2.imp_right fun h => ⟨h.1, fun u hu2 => (hrun u hu2).trans (h.2 u hu2)⟩⟩
      | ok r =>
        obtain ⟨ns, r⟩ := r
        rw [hq] at ih
        obtain ⟨d1, d2, hd0, rfl, hd⟩ := ih
        exact ⟨c1 ++ d1, d2, by rw [hc, hd0]; simp, rfl, fun h u hu2 => (hrun u hu2).trans (hd h u hu2)⟩
theorem LocW.bindV {α β : Type} {c : List Tok} {E : Tok} {res : PR α} {run : List Tok → PR α} {f : α → List Tok → PR β} {d : List Tok} (g : List Tok → PR β) (gE : PR β)
    (h1 : LocV c E res run) (hcd : ∀ t ∈ c, t ∈ d) (hE : gE = bnd res f) {f' : α → List Tok → PR β} (hg : ∀ u, g u = bnd (run u) f')
    (h2 : ∀ v c1 c2, c = c1 ++ c2 → res = .ok (v, c2 ++ [E]) → LocW d c2 E (f v (c2 ++ [E])) (fun u => f' v (c2 ++ u))) : LocW d c E gE g := by
  cases res with
  | error p =>
    obtain ⟨p, x⟩ := p
    rw [hE]
    exact ⟨h1.1, h1.2.imp_right fun h => ⟨by obtain ⟨t, ht, e⟩ := h.1; exact ⟨t, hcd t ht, e⟩, fun u hu => by rw [hg, h.2 u hu]; rfl⟩⟩
  | ok r =>
    obtain ⟨v, r⟩ := r
    obtain ⟨c1, c2, hc, rfl, hu⟩ := h1
    rw [hE]
    simp only [bnd]
    have ih := h2 v c1 c2 hc rfl
    have hrun : ∀ u, g u = f' v (c2 ++ u) := fun u => by rw [hg, hu u]; rfl
    cases hq : f v (c2 ++ [E]) with
    | error p =>
      obtain ⟨p, x⟩ := p
      rw [hq] at ih
      exact ⟨ih.1, ih.2.imp_right fun h => ⟨h.1, fun u hu2 => (hrun u).trans (h.2 u hu2)⟩⟩
    | ok r =>
      obtain ⟨ns, r⟩ := r
      rw [hq] at ih
      obtain ⟨d1, d2, hd0, rfl, hd⟩ := ih
      exact ⟨c1 ++ d1, d2, by rw [hc, hd0]; simp, rfl, fun h u hu2 => (hrun u).trans (hd h u hu2)⟩
theorem num_mem {m : Int} {c c2 : List Tok} {E t : Tok} (h : numberQ m (c ++ [E]) = .ok (t, c2 ++ [E])) : c = t :: c2 := by
  have := (numberQ_s h).1
  rw [← List.cons_append] at this
  exact List.append_inj_left' this rfl
theorem sub_right {c c1 c2 : List Tok} (h : c = c1 ++ c2) : ∀ t ∈ c2, t ∈ c := fun t ht => by rw [h]; exact List.mem_append_right _ ht
theorem LocW.fail {α : Type} {d c : List Tok} {E t : Tok} {run : List Tok → PR α} {x : Int} (hx : x ≠ 0) (ht : t ∈ d) (h : ∀ u, run u = .error (t.at_, x)) : LocW d c E (.error (t.at_, x)) run :=
  ⟨hx, .inr ⟨⟨t, ht, rfl⟩, fun u _ => h u⟩⟩
/-- .. with as many rounds as the rest asks for. -/
theorem LocW.fuel {α : Type} {d c : List Tok} {E : Tok} {res : PR α} {run : Nat → List Tok → PR α} {N : Nat} (g : List Tok → Nat) (h : ∀ n', N ≤ n' → LocW d c E res (run n')) (hg : ∀ u, u ≠ [] → N ≤ g u) : LocW d c E res (fun u => run (g u) u) := by
  cases res with
  | error p =>
    obtain ⟨p, x⟩ := p
    have h0 := h N (Nat.le_refl _)
    refine ⟨h0.1, ?_⟩
    rcases h0.2 with h1 | h1
    · exact .inl h1
    · by_cases hpe : p = E.at_
      · exact .inl hpe
      · refine .inr ⟨h1.1, fun u hu => ?_⟩
        rcases (h _ (hg u hu)).2 with h2 | h2
        · exact absurd h2 hpe
        · exact h2.2 u hu
  | ok r =>
    obtain ⟨v, r⟩ := r
    obtain ⟨c1, c2, hc, hr, _⟩ := h N (Nat.le_refl _)
    refine ⟨c1, c2, hc, hr, fun hn u hu => ?_⟩
    obtain ⟨d1, d2, hd, hr2, hu2⟩ := h _ (hg u hu)
    have : d2 = c2 := by rw [hr] at hr2; exact (List.append_inj_left' hr2 rfl).symm
    subst this
    exact hu2 hn u hu
theorem LocW.map {α β : Type} {d c : List Tok} {E : Tok} {res : PR α} {run : List Tok → PR α} (F : α → β) (h : LocW d c E res run) :
    LocW d c E (bnd res fun v r => .ok (F v, r)) (fun u => bnd (run u) fun v r => .ok (F v, r)) := by
  cases res with
  | error p =>
    obtain ⟨p, x⟩ := p
    exact ⟨h.1, h.2.imp_right fun h => ⟨h.1, fun u hu => by simp only [h.2 u hu, bnd]⟩⟩
  | ok r =>
    obtain ⟨v, r⟩ := r
    obtain ⟨c1, c2, hc, hr, hu⟩ := h
    exact ⟨c1, c2, hc, hr, fun hn u hu2 => by simp only [hu hn u hu2, bnd]⟩
/-- .. behind tokens that were read. -/
theorem LocW.ahead {α : Type} {d c : List Tok} {E : Tok} {res : PR α} {run : List Tok → PR α} (b : List Tok) (h : LocW d c E res run) : LocW d (b ++ c) E res run := by
  cases res with
  | error p => obtain ⟨p, x⟩ := p; exact h
  | ok r =>
    obtain ⟨v, r⟩ := r
    obtain ⟨c1, c2, hc, hr, hu⟩ := h
    exact ⟨b ++ c1, c2, by rw [hc, List.append_assoc], hr, hu⟩
theorem LocW.toR {α : Type} {c : List Tok} {E : Tok} {res : PR α} {run : List Tok → PR α} (h : LocW c c E res run) : LocR c E res run := by
  cases res with
  | error p => obtain ⟨p, x⟩ := p; exact h
  | ok r => exact h
theorem isQ_yes' {k : Tok} {s : List UInt8} (hp : isP k s = true) (u : List Tok) : isQ s (k :: u) = (true, u) := by simp [isQ, hp]
theorem isQ_no' {k : Tok} {s : List UInt8} (hp : ¬ isP k s = true) (u : List Tok) : isQ s (k :: u) = (false, k :: u) := by simp [isQ, hp]
def termsF (nd n : Nat) (args : List Int) (t : Tok) (scope' : List Int) (r' : List Tok) : PR (List Int × List Int) :=
  if (isQ [44] r').1 then termsQ nd n (args ++ [t.n]) scope' (isQ [44] r').2 else .ok ((args ++ [t.n], scope'), r')
def termsG (nd n : Nat) (args scope : List Int) (t : Tok) (r : List Tok) : PR (List Int × List Int) :=
  if t.n = 0 then .error (t.at_, 4) else bnd (varQ nd scope r) (termsF nd n args t)
theorem termsQ_eq (nd n : Nat) (args scope : List Int) (ts : List Tok) : termsQ nd (n + 1) args scope ts = bnd (numberQ 1000000 ts) (termsG nd n args scope) := by
  rw [termsQ]
  cases numberQ 1000000 ts with
  | error e => rfl
  | ok p =>
    obtain ⟨t, r⟩ := p
    simp only [bnd, termsG]
    split
    · rfl
    · cases varQ nd scope r <;> rfl
theorem loc_terms (nd : Nat) : ∀ (n : Nat) (args scope : List Int) (c d : List Tok) (E : Tok), E.kind = 4 → c.length < n → (∀ t ∈ c, t ∈ d) → ∀ n', n ≤ n' → LocW d c E (termsQ nd n args scope (c ++ [E])) (fun u => termsQ nd n' args scope (c ++ u))
  | 0, _, _, c, _, _, _, hn, _, _, _ => by omega
  | n + 1, _, _, c, _, _, _, hn, _, 0, _ => by omega
  | n + 1, args, scope, c, d, E, hE, hlen, hd, n' + 1, hn' => by
    refine LocW.bindV (f := termsG nd n args scope) (f' := termsG nd n' args scope) _ _ (loc_num 1000000 c E hE).toV hd (termsQ_eq nd n args scope _) (fun u => termsQ_eq nd n' args scope _) ?_
    intro t c1 c2 hc hq
    have hm := num_mem hq
    by_cases h0 : t.n = 0
    · have e : ∀ m r, termsG nd m args scope t r = .error (t.at_, 4) := fun m r => by rw [termsG, if_pos h0]
      rw [e]
      exact LocW.fail (by decide) (hd t (by rw [hm]; exact List.mem_cons_self ..)) fun u => e _ _
    · have e : ∀ m r, termsG nd m args scope t r = bnd (varQ nd scope r) (termsF nd m args t) := fun m r => by rw [termsG, if_neg h0]
      refine LocW.bindV (f := termsF nd n args t) (f' := termsF nd n' args t) _ _ (loc_var nd scope c2 E hE).toV (fun t ht => hd t (sub_right hc t ht)) (e _ _) (fun u => e _ _) ?_
      intro sc d1 d2 hdd _
      cases d2 with
      | nil =>
        have : termsF nd n args t sc ([] ++ [E]) = .ok ((args ++ [t.n], sc), [E]) := by
          rw [List.nil_append, termsF, if_neg (by simp [isQ, isP_end hE])]
        rw [this]
        exact ⟨[], [], rfl, rfl, fun h => absurd rfl h⟩
      | cons k q =>
        have hlc : c.length = 1 + (d1.length + (1 + q.length)) := by
          rw [hm, hdd]; simp; omega
        by_cases hp : isP k [44] = true
        · have e2 : ∀ m u, termsF nd m args t sc (k :: q ++ u) = termsQ nd m (args ++ [t.n]) sc (q ++ u) := fun m u => by
            rw [termsF, List.cons_append, isQ_yes' hp, if_pos rfl]
          have ih := loc_terms nd n (args ++ [t.n]) sc q d E hE (by omega) (fun t ht => hd t (by rw [hm, hdd]; simp [ht])) n' (by omega)
          simp only [e2]
          exact LocW.ahead [k] ih
        · have e2 : ∀ m u, termsF nd m args t sc (k :: q ++ u) = .ok ((args ++ [t.n], sc), k :: q ++ u) := fun m u => by
            rw [termsF, List.cons_append, isQ_no' hp, if_neg (by simp)]
          simp only [e2]
          exact ⟨[], k :: q, rfl, rfl, fun _ u _ => rfl⟩
def linH (p : List Int × List Int) (how : Int) (u : Tok) (r2 : List Tok) : PR (List Int × List Int) := .ok ((p.1 ++ [how, u.n], p.2), r2)
def linG (p : List Int × List Int) (_ : Unit) (r1 : List Tok) : PR (List Int × List Int) :=
  let t := (nextQ r1).1
  let how := wordFrom t.text 0 howsT
  if t.kind = 1 ∧ 0 ≤ how then bnd (numberQ 1000000 (nextQ r1).2) (linH p how) else .error (t.at_, 3)
def linF (p : List Int × List Int) (r : List Tok) : PR (List Int × List Int) := bnd (signQ [58] r) (linG p)
theorem linearQ_bnd (nd : Nat) (ts : List Tok) : linearQ nd ts = bnd (termsQ nd (ts.length + 1) [] [] ts) linF := by
  rw [linearQ]
  cases termsQ nd (ts.length + 1) [] [] ts with
  | error e => rfl
  | ok p =>
    obtain ⟨⟨args, scope⟩, r⟩ := p
    simp only [bnd, linF]
    cases signQ [58] r with
    | error e => rfl
    | ok p =>
      obtain ⟨v, r1⟩ := p
      simp only [linG]
      split
      · cases numberQ 1000000 (nextQ r1).2 <;> rfl
      · rfl
theorem loc_linear (nd : Nat) (c : List Tok) (E : Tok) (hE : E.kind = 4) : LocR c E (linearQ nd (c ++ [E])) (fun u => linearQ nd (c ++ u)) := by
  have ht := LocW.fuel (run := fun n' u => termsQ nd n' [] [] (c ++ u)) (N := (c ++ [E]).length + 1) (fun u => (c ++ u).length + 1) (fun n' hn' => loc_terms nd _ [] [] c c E hE (by simp; omega) (fun _ h => h) n' hn') (fun u hu => by have := List.length_pos_iff.2 hu; simp; omega)
  refine (LocW.bind (d := c) (f := linF) (f' := linF) _ _ ht.toR (fun _ h => h) (linearQ_bnd nd _) (fun u => linearQ_bnd nd _) ?_ ?_).toR
  · intro p c1 c2 hc _ _
    refine LocW.bindV (f := linG p) (f' := linG p) _ _ (loc_sign [58] c2 E hE).toV (sub_right hc) rfl (fun u => rfl) ?_
    intro v d1 d2 hdd _
    cases d2 with
    | nil =>
      have : linG p v ([] ++ [E]) = .error (E.at_, 3) := by
        rw [List.nil_append, linG]
        rw [if_neg (by simp [nextQ, hE])]
        rfl
      rw [this]
      exact ⟨by decide, .inl rfl⟩
    | cons k q =>
      have hk : k ∈ c := by rw [hc, hdd]; simp
      by_cases hh : k.kind = 1 ∧ 0 ≤ wordFrom k.text 0 howsT
      · have h4 : ¬ k.kind = 4 := by have := hh.1; omega
        have hnx : ∀ u, nextQ (k :: q ++ u) = (k, q ++ u) := fun u => by simp [nextQ, h4]
        have e : ∀ u, linG p v (k :: q ++ u) = bnd (numberQ 1000000 (q ++ u)) (linH p (wordFrom k.text 0 howsT)) := fun u => by
          rw [linG]
          simp only [hnx]
          rw [if_pos hh]
        refine LocW.ahead [k] (LocW.bindV (f := linH p (wordFrom k.text 0 howsT)) (f' := linH p (wordFrom k.text 0 howsT)) _ _ (loc_num 1000000 q E hE).toV (fun t ht => by rw [hc, hdd]; simp [ht]) (e _) (fun u => e u) ?_)
        intro w e1 e2 he _
        exact ⟨[], e2, rfl, rfl, fun _ u _ => rfl⟩
      · have e : ∀ u, linG p v (k :: q ++ u) = .error (k.at_, 3) := fun u => by
          have h1 : (nextQ (k :: q ++ u)).1 = k := by simp [nextQ]
          rw [linG]
          simp only [h1]
          rw [if_neg hh]
        simp only [e]
        exact LocW.fail (by decide) hk fun u => rfl
  · intro p
    refine ⟨3, ?_, by decide⟩
    have : signQ [58] [E] = .error (E.at_, 3) := by simp [signQ, isP, hE]
    rw [linF, this]; rfl
/-! ### Soft constraints -/
def costH (doms : List (List Int)) (scope : List Int) (n : Nat) (costs : List Int) (rows' : List (List Int)) (t : Tok) (r' : List Tok) : PR (List (List Int) × List Int) := costsQ doms scope n rows' (costs ++ [t.n]) r'
def costG (doms : List (List Int)) (scope : List Int) (n : Nat) (costs : List Int) (rows' : List (List Int)) (r : List Tok) : PR (List (List Int) × List Int) := bnd (numberQ 1000000000000 r) (costH doms scope n costs rows')
theorem loc_costs (doms : List (List Int)) (scope : List Int) : ∀ (n : Nat) (rows : List (List Int)) (costs : List Int) (c d : List Tok) (E : Tok), E.kind = 4 → c.length < n → (∀ t ∈ c, t ∈ d) → ∀ n', n ≤ n' → LocW d c E (costsQ doms scope n rows costs (c ++ [E])) (fun u => costsQ doms scope n' rows costs (c ++ u))
  | 0, _, _, c, _, _, _, hn, _, _, _ => by omega
  | n + 1, _, _, c, _, _, _, hn, _, 0, _ => by omega
  | n + 1, rows, costs, c, d, E, hE, hlen, hd, n' + 1, hn' => by
    cases c with
    | nil =>
      have : costsQ doms scope (n + 1) rows costs ([] ++ [E]) = .ok ((rows, costs), [E]) := by
        rw [List.nil_append, costsQ, if_neg (by simp [isQ, isP_end hE])]
      rw [this]
      exact ⟨[], [], rfl, rfl, fun h => absurd rfl h⟩
    | cons k q =>
      by_cases hp : isP k [44] = true
      · have e : ∀ m u, costsQ doms scope (m + 1) rows costs (k :: q ++ u) = bnd (rowQ doms scope rows (q ++ u)) (costG doms scope m costs) := fun m u => by
          rw [costsQ, List.cons_append, isQ_yes' hp, if_pos rfl]
          cases rowQ doms scope rows (q ++ u) with
          | error e => rfl
          | ok p =>
            obtain ⟨rows', r⟩ := p
            simp only [bnd, costG]
            cases numberQ 1000000000000 r <;> rfl
        refine LocW.ahead [k] (LocW.bindV (f := costG doms scope n costs) (f' := costG doms scope n' costs) _ _ (loc_row doms scope rows q E hE) (fun t ht => hd t (List.mem_cons_of_mem _ ht)) (e _ _) (fun u => e _ _) ?_)
        intro rows' c1 c2 hc _
        refine LocW.bindV (f := costH doms scope n costs rows') (f' := costH doms scope n' costs rows') _ _ (loc_num 1000000000000 c2 E hE).toV (fun t ht => hd t (List.mem_cons_of_mem _ (sub_right hc t ht))) rfl (fun u => rfl) ?_
        intro t d1 d2 hdd _
        exact loc_costs doms scope n rows' (costs ++ [t.n]) d2 d E hE (by have : (k :: q).length = 1 + (c1.length + (d1.length + d2.length)) := by rw [hc, hdd]; simp; omega
                                                                          omega) (fun t ht => hd t (List.mem_cons_of_mem _ (sub_right hc t (sub_right hdd t ht)))) n' (by omega)
      · have e : ∀ m u, costsQ doms scope (m + 1) rows costs (k :: q ++ u) = .ok ((rows, costs), k :: q ++ u) := fun m u => by
          rw [costsQ, List.cons_append, isQ_no' hp, if_neg (by simp)]
        simp only [e]
        exact ⟨[], k :: q, rfl, rfl, fun _ u _ => rfl⟩
def softM (scope : List Int) (t : Tok) (p : List (List Int) × List Int) : Sft := ⟨scope, p.1, p.2, t.n⟩
def softH (doms : List (List Int)) (scope : List Int) (t : Tok) (r2 : List Tok) : PR Sft := bnd (costsQ doms scope (r2.length + 1) [] [] r2) fun p r3 => .ok (softM scope t p, r3)
def softG (doms : List (List Int)) (scope : List Int) (_ : Unit) (r1 : List Tok) : PR Sft := bnd (numberQ 1000000000000 r1) (softH doms scope)
def softF (doms : List (List Int)) (scope : List Int) (r : List Tok) : PR Sft := bnd (signQ [58] r) (softG doms scope)
theorem softQ_eq (doms : List (List Int)) (ts : List Tok) : softQ doms ts = bnd (scopeQ doms.length ts []) (softF doms) := by
  rw [softQ]
  cases scopeQ doms.length ts [] with
  | error e => rfl
  | ok p =>
    obtain ⟨scope, r⟩ := p
    simp only [bnd, softF]
    cases signQ [58] r with
    | error e => rfl
    | ok p =>
      obtain ⟨v, r1⟩ := p
      simp only [softG, bnd]
      cases numberQ 1000000000000 r1 with
      | error e => rfl
      | ok p =>
        obtain ⟨t, r2⟩ := p
        simp only [softH, bnd]
        cases costsQ doms scope (r2.length + 1) [] [] r2 <;> rfl
theorem sign_none (s : List UInt8) (E : Tok) (hE : E.kind = 4) : signQ s [E] = .error (E.at_, 3) := by simp [signQ, isP, hE]
theorem loc_soft (doms : List (List Int)) (c : List Tok) (E : Tok) (hE : E.kind = 4) : LocR c E (softQ doms (c ++ [E])) (fun u => softQ doms (c ++ u)) := by
  refine (LocW.bind (d := c) (f := softF doms) (f' := softF doms) _ _ (loc_scope doms.length c [] E hE) (fun _ h => h) (softQ_eq doms _) (fun u => softQ_eq doms _) ?_ ?_).toR
  · intro scope c1 c2 hc _ _
    refine LocW.bindV (f := softG doms scope) (f' := softG doms scope) _ _ (loc_sign [58] c2 E hE).toV (sub_right hc) rfl (fun u => rfl) ?_
    intro v d1 d2 hdd _
    refine LocW.bindV (f := softH doms scope) (f' := softH doms scope) _ _ (loc_num 1000000000000 d2 E hE).toV (fun t ht => sub_right hc t (sub_right hdd t ht)) rfl (fun u => rfl) ?_
    intro t e1 e2 hee _
    exact LocW.map (softM scope t) (LocW.fuel (run := fun n' u => costsQ doms scope n' [] [] (e2 ++ u)) (N := (e2 ++ [E]).length + 1) (fun u => (e2 ++ u).length + 1) (fun n' hn' => loc_costs doms scope _ [] [] e2 c E hE (by simp; omega) (fun t ht => sub_right hc t (sub_right hdd t (sub_right hee t ht))) n' hn') (fun u hu => by have := List.length_pos_iff.2 hu; simp; omega))
  · intro scope
    exact ⟨3, by rw [softF, sign_none _ E hE]; rfl, by decide⟩
/-! ### Hard constraints -/
def hardM6 (kind : Int) (p : List Int × List Int) : Con := ⟨kind, p.2, [], p.1⟩
def hardMT (kind : Int) (scope : List Int) (rows : List (List Int)) : Con := ⟨kind, scope, rows, []⟩
def hardF (doms : List (List Int)) (kind : Int) (scope : List Int) (r : List Tok) : PR Con := bnd (tableQ doms scope r) fun rows r' => .ok (hardMT kind scope rows, r')
theorem loc_hard (doms : List (List Int)) (kind : Int) (c : List Tok) (E : Tok) (hE : E.kind = 4) : LocR c E (hardQ doms kind (c ++ [E])) (fun u => hardQ doms kind (c ++ u)) := by
  by_cases h6 : kind = 6
  · have e : ∀ u, hardQ doms kind u = bnd (linearQ doms.length u) fun p r => .ok (hardM6 kind p, r) := fun u => by rw [hardQ, if_pos h6]; cases linearQ doms.length u <;> rfl
    simp only [e]
    exact (LocW.map (hardM6 kind) ((loc_linear doms.length c E hE).toW (fun _ h => h))).toR
  · by_cases h2 : kind ≤ 2
    · have e : ∀ u, hardQ doms kind u = bnd (scopeQ doms.length u []) (hardF doms kind) := fun u => by
        rw [hardQ, if_neg h6]
        cases scopeQ doms.length u [] with
        | error e => rfl
        | ok p =>
          obtain ⟨scope, r⟩ := p
          simp only [if_pos h2, bnd, hardF]
          cases tableQ doms scope r <;> rfl
      refine (LocW.bind (d := c) (f := hardF doms kind) (f' := hardF doms kind) _ _ (loc_scope doms.length c [] E hE) (fun _ h => h) (e _) (fun u => e _) ?_ ?_).toR
      · intro scope c1 c2 hc _ _
        exact LocW.map (hardMT kind scope) ((loc_table doms scope c2 E hE).toW (sub_right hc))
      · intro scope
        exact ⟨3, by rw [hardF, tableQ, sign_none _ E hE]; rfl, by decide⟩
    · have e : ∀ u, hardQ doms kind u = bnd (scopeQ doms.length u []) fun scope r => .ok (hardMT kind scope [], r) := fun u => by
        rw [hardQ, if_neg h6]
        cases scopeQ doms.length u [] with
        | error e => rfl
        | ok p => simp only [if_neg h2]; rfl
      simp only [e]
      exact (LocW.map (fun scope => hardMT kind scope []) ((loc_scope doms.length c [] E hE).toW (fun _ h => h))).toR
end Go.Proofs.YtgpgmmkkmoecmaaGreatDoor

/- The parser looks no further than where it tells that something is wrong (texts); what a text's tokens are. -/
namespace Go.Proofs.YtgpgmmkkmoecmaaGreatDoor

def stBody (x : Ins) (t : Tok) (r : List Tok) : PR Ins :=
  if t.text = varT then (if 40 ≤ x.doms.length then Except.error (t.at_, 7) else match domQ r [] with
    | .error e => .error e
    | .ok (d, r') => .ok ({ x with doms := x.doms ++ [d] }, r'))
  else if t.text = softT then (if 200 ≤ x.soft.length then .error (t.at_, 7) else match softQ x.doms r with
    | .error e => .error e
    | .ok (s, r') => .ok ({ x with soft := x.soft ++ [s] }, r'))
  else (if 200 ≤ x.hard.length then .error (t.at_, 7) else match hardQ x.doms (wordFrom t.text 0 wordsT) r with
    | .error e => .error e
    | .ok (c, r') => .ok ({ x with hard := x.hard ++ [c] }, r'))
theorem stmtQ_good {x : Ins} {t : Tok} (h4 : ¬ t.kind = 4) (hg : t.kind = 1 ∧ (0 < wordFrom t.text 0 wordsT ∨ t.text = varT ∨ t.text = softT)) (q : List Tok) : stmtQ x (t :: q) = match stBody x t q with
    | .error e => .error e
    | .ok (y, r') => match signQ [59] r' with
      | .error e => .error e
      | .ok (_, r2) => .ok (y, r2) := by
  simp only [stmtQ, nextQ, if_neg h4]
  rw [if_neg (fun hx => hx hg)]
  rfl
theorem loc_body (x : Ins) (t : Tok) (q : List Tok) (E : Tok) (hE : E.kind = 4) : LocW (t :: q) q E (stBody x t (q ++ [E])) (fun u => stBody x t (q ++ u)) := by
  have hsub : ∀ s ∈ q, s ∈ t :: q := fun s hs => List.mem_cons_of_mem _ hs
  by_cases hv : t.text = varT
  · by_cases h40 : 40 ≤ x.doms.length
    · have e : ∀ u, stBody x t u = .error (t.at_, 7) := fun u => by rw [stBody, if_pos hv, if_pos h40]
      simp only [e]
      exact LocW.fail (by decide) (List.mem_cons_self ..) fun u => rfl
    · have e : ∀ u, stBody x t u = bnd (domQ u []) fun d r' => .ok ((fun d => { x with doms := x.doms ++ [d] }) d, r') := fun u => by rw [stBody, if_pos hv, if_neg h40]; cases domQ u [] <;> rfl
      simp only [e]
      exact LocW.map _ ((loc_dom q [] E hE).toW hsub)
  · by_cases hs : t.text = softT
    · by_cases h40 : 200 ≤ x.soft.length
      · have e : ∀ u, stBody x t u = .error (t.at_, 7) := fun u => by rw [stBody, if_neg hv, if_pos hs, if_pos h40]
        simp only [e]
        exact LocW.fail (by decide) (List.mem_cons_self ..) fun u => rfl
      · have e : ∀ u, stBody x t u = bnd (softQ x.doms u) fun d r' => .ok ((fun d => { x with soft := x.soft ++ [d] }) d, r') := fun u => by rw [stBody, if_neg hv, if_pos hs, if_neg h40]; cases softQ x.doms u <;> rfl
        simp only [e]
        exact LocW.map _ ((loc_soft x.doms q E hE).toW hsub)
    · by_cases h40 : 200 ≤ x.hard.length
      · have e : ∀ u, stBody x t u = .error (t.at_, 7) := fun u => by rw [stBody, if_neg hv, if_neg hs, if_pos h40]
        simp only [e]
        exact LocW.fail (by decide) (List.mem_cons_self ..) fun u => rfl
      · have e : ∀ u, stBody x t u = bnd (hardQ x.doms (wordFrom t.text 0 wordsT) u) fun d r' => .ok ((fun d => { x with hard := x.hard ++ [d] }) d, r') := fun u => by rw [stBody, if_neg hv, if_neg hs, if_neg h40]; cases hardQ x.doms (wordFrom t.text 0 wordsT) u <;> rfl
        simp only [e]
        exact LocW.map _ ((loc_hard x.doms _ q E hE).toW hsub)
/-- As LocR; something is read, and what is left goes on with anything. -/
def LocT {α : Type} (c : List Tok) (E : Tok) (res : PR α) (run : List Tok → PR α) : Prop :=
  match res with
  | .error (p, x) => x ≠ 0 ∧ (p = E.at_ ∨ (∃ t ∈ c, p = t.at_) ∧ ∀ u, u ≠ [] → run u = .error (p, x))
  | .ok (v, r) => ∃ c1 c2, c = c1 ++ c2 ∧ c1 ≠ [] ∧ r = c2 ++ [E] ∧ ∀ u, u ≠ [] → run u = .ok (v, c2 ++ u)
theorem loc_stmt (x : Ins) (t : Tok) (q : List Tok) (E : Tok) (hE : E.kind = 4) (h4 : ¬ t.kind = 4) : LocT (t :: q) E (stmtQ x (t :: q ++ [E])) (fun u => stmtQ x (t :: q ++ u)) := by
  by_cases hg : t.kind = 1 ∧ (0 < wordFrom t.text 0 wordsT ∨ t.text = varT ∨ t.text = softT)
  · have e : ∀ u, stmtQ x (t :: q ++ u) = match stBody x t (q ++ u) with
        | .error e => .error e
        | .ok (y, r') => match signQ [59] r' with
          | .error e => .error e
          | .ok (_, r2) => .ok (y, r2) := fun u => stmtQ_good h4 hg (q ++ u)
    have hb := loc_body x t q E hE
    rw [e]
    cases hq : stBody x t (q ++ [E]) with
    | error p =>
      obtain ⟨p, k⟩ := p
      rw [hq] at hb
      exact ⟨hb.1, hb.2.imp_right fun h => ⟨h.1, fun u hu => by
        have h2 : stBody x t (q ++ u) = _ := h.2 u hu
        simp only [e, h2]⟩⟩
    | ok r =>
      obtain ⟨y, r⟩ := r
      rw [hq] at hb
      obtain ⟨c1, c2, rfl, rfl, hu⟩ := hb
      simp only
      by_cases hn : c2 = []
      · subst hn
        rw [List.nil_append, sign_none _ E hE]
        exact ⟨by decide, .inl rfl⟩
      · have hrun : ∀ u, u ≠ [] → stmtQ x (t :: (c1 ++ c2) ++ u) = match signQ [59] (c2 ++ u) with
            | .error e => .error e
            | .ok (_, r2) => .ok (y, r2) := fun u hu2 => by
          have h2 : stBody x t (c1 ++ c2 ++ u) = _ := hu hn u hu2
          rw [e, h2]
        have hs := loc_sign [59] c2 E hE
        cases hq2 : signQ [59] (c2 ++ [E]) with
        | error p =>
          obtain ⟨p, k⟩ := p
          rw [hq2] at hs
          exact ⟨hs.1, hs.2.imp_right fun h => ⟨by obtain ⟨s, hs, hp⟩ := h.1; exact ⟨s, by simp [hs], hp⟩, fun u hu2 => by
            have h2 : signQ [59] (c2 ++ u) = _ := h.2 u hu2
            simp only [hrun u hu2, h2]⟩⟩
        | ok r =>
          obtain ⟨v, r⟩ := r
          rw [hq2] at hs
          obtain ⟨d1, d2, rfl, _, rfl, hd⟩ := hs
          exact ⟨t :: (c1 ++ d1), d2, by simp, by simp, rfl, fun u hu2 => by
            have h2 : signQ [59] (d1 ++ d2 ++ u) = _ := hd u
            simp only [hrun u hu2, h2]⟩
  · have e : ∀ u, stmtQ x (t :: q ++ u) = .error (t.at_, 3) := fun u => stmtQ_bad hg
    simp only [e]
    exact ⟨by decide, .inr ⟨⟨t, List.mem_cons_self .., rfl⟩, fun u _ => rfl⟩⟩
def LocZ (n : Nat) (x : Ins) (c : List Tok) (E : Tok) : Prop := match stmtsQ n x (c ++ [E]) with
  | .error (p, e) => e ≠ 0 ∧ (p = E.at_ ∨ (∃ t ∈ c, p = t.at_) ∧ ∀ u, u ≠ [] → ∀ n', n ≤ n' → stmtsQ n' x (c ++ u) = .error (p, e))
  | .ok y => ∀ u, u ≠ [] → ∀ n', n ≤ n' → ∃ n'', n' ≤ n'' + c.length ∧ stmtsQ n' x (c ++ u) = stmtsQ n'' y u
theorem loc_stmts : ∀ (n : Nat) (x : Ins) (c : List Tok) (E : Tok), E.kind = 4 → (∀ t ∈ c, ¬ t.kind = 4) → c.length < n → LocZ n x c E
  | 0, _, c, _, _, _, hn => by omega
  | n + 1, x, [], E, hE, _, _ => by
    have : stmtsQ (n + 1) x ([] ++ [E]) = .ok x := by rw [List.nil_append, stmtsQ_end hE]
    rw [LocZ, this]
    intro u _ n' _
    exact ⟨n', by simp, rfl⟩
  | n + 1, x, t :: q, E, hE, hc, hn => by
    have h4 := hc t (List.mem_cons_self ..)
    have hs := loc_stmt x t q E hE h4
    rw [LocZ, List.cons_append]
    rw [List.cons_append] at hs
    cases hq : stmtQ x (t :: (q ++ [E])) with
    | error p =>
      obtain ⟨p, k⟩ := p
      rw [hq] at hs
      rw [stmtsQ_err h4 hq]
      refine ⟨hs.1, hs.2.imp_right fun h => ⟨h.1, fun u hu n' hn' => ?_⟩⟩
      cases n' with
      | zero => omega
      | succ n' => exact stmtsQ_err h4 (h.2 u hu)
    | ok r =>
      obtain ⟨y, r⟩ := r
      rw [hq] at hs
      rw [stmtsQ_go h4 hq]
      obtain ⟨c1, c2, hcc, hne, rfl, hu⟩ := hs
      have hl : (t :: q).length = c1.length + c2.length := by rw [hcc, List.length_append]
      have hp := List.length_pos_iff.2 hne
      have ih := loc_stmts n y c2 E hE (fun s hs => hc s (by rw [hcc]; exact List.mem_append_right _ hs)) (by omega)
      rw [LocZ] at ih
      cases hq2 : stmtsQ n y (c2 ++ [E]) with
      | error p =>
        obtain ⟨p, k⟩ := p
        rw [hq2] at ih
        refine ⟨ih.1, ih.2.imp_right fun h => ⟨by obtain ⟨s, hs, hp⟩ := h.1; exact ⟨s, by rw [hcc]; exact List.mem_append_right _ hs, hp⟩, fun u hu2 n' hn' => ?_⟩⟩
        cases n' with
        | zero => omega
        | succ n' =>
          have h2 := hu u hu2
          simp only [List.cons_append] at h2 ⊢
          rw [stmtsQ_go h4 h2]
          exact h.2 u hu2 n' (by omega)
      | ok z =>
        rw [hq2] at ih
        intro u hu2 n' hn'
        cases n' with
        | zero => omega
        | succ n' =>
          obtain ⟨n'', h3, h5⟩ := ih u hu2 n' (by omega)
          have h2 := hu u hu2
          simp only [List.cons_append] at h2 ⊢
          rw [stmtsQ_go h4 h2]
          exact ⟨n'', by simp only [List.length_cons] at hl ⊢; omega, h5⟩

/-! ### A text's tokens -/
theorem tok_ok {l : List UInt8} {t : Tok} {k : Nat} (h : tokenP l = .ok (t, k)) (a : Int) : TokOk { t with at_ := a } ∧ ¬ t.kind = 4 := by
  cases l with
  | nil => cases h
  | cons c r =>
    simp only [tokenP] at h
    split at h
    · rename_i hc
      injection h with h; injection h with h _
      subst h
      refine ⟨.inr (.inr (.inl ⟨c, rfl, ?_⟩)), by simp⟩
      rcases hc with hc | hc | hc
      · exact .inl (UInt8.toNat_inj.1 hc)
      · exact .inr (.inl (UInt8.toNat_inj.1 hc))
      · exact .inr (.inr (UInt8.toNat_inj.1 hc))
    · split at h
      · rename_i hw
        injection h with h; injection h with h _
        subst h
        have h1 : 0 < runP isLetter (c :: r) := by unfold runP; rw [if_pos hw]; omega
        refine ⟨.inr (.inl ⟨rfl, ?_, fun d hd => run_mem isLetter _ d hd⟩), by simp⟩
        intro e
        have := congrArg List.length e
        rw [List.length_take] at this
        have := runP_le isLetter (c :: r)
        simp only [List.length_nil] at *
        omega
      · split at h
        · split at h
          · injection h with h; injection h with h _
            subst h
            exact ⟨.inl rfl, by simp⟩
          · cases h
        · cases h
theorem scan_ok : ∀ (f a : Nat) (l : List UInt8) (ts : List Tok), l.length < f → scanP f a l = .ok ts → ∃ (c : List Tok) (E : Tok), ts = c ++ [E] ∧ E.kind = 4 ∧ E.at_ = (a : Int) + l.length ∧ AllOk (c ++ [E]) ∧ (∀ t ∈ c, ¬ t.kind = 4 ∧ (a : Int) ≤ t.at_ ∧ t.at_ < (a : Int) + l.length) ∧ c.length ≤ l.length
  | 0, a, l, ts, hf, _ => by omega
  | f + 1, a, l, ts, hf, h => by
    rw [scanP] at h
    split at h
    · rename_i hl
      injection h with h
      subst h hl
      refine ⟨[], ⟨4, [], 0, a⟩, rfl, rfl, by simp, fun t ht => ?_, by simp, by simp⟩
      rw [List.nil_append, List.mem_singleton] at ht
      subst ht
      exact .inr (.inr (.inr rfl))
    · split at h
      · rename_i h0
        have hle := leftP_le l
        obtain ⟨c, E, h1, h2, h3, h4, h5, h6⟩ := scan_ok f (a + leftP l) (l.drop (leftP l)) ts (by rw [List.length_drop]; omega) h
        rw [List.length_drop] at h3 h5 h6
        refine ⟨c, E, h1, h2, by omega, h4, fun t ht => ?_, by omega⟩
        have := h5 t ht
        exact ⟨this.1, by omega, by omega⟩
      · cases ht : tokenP l with
        | error e => rw [ht] at h; cases h
        | ok p =>
          obtain ⟨t, k⟩ := p
          rw [ht] at h
          have hk := tokenP_size ht
          cases hr : scanP f (a + k) (l.drop k) with
          | error e => simp only [hr] at h; cases h
          | ok us =>
            simp only [hr] at h
            injection h with h
            subst h
            obtain ⟨c, E, h1, h2, h3, h4, h5, h6⟩ := scan_ok f (a + k) (l.drop k) us (by rw [List.length_drop]; omega) hr
            rw [List.length_drop] at h3 h5 h6
            have hto := tok_ok ht a
            subst h1
            refine ⟨{ t with at_ := (a : Int) } :: c, E, rfl, h2, by omega, fun s hs => ?_, fun s hs => ?_, by simp; omega⟩
            · rw [List.cons_append] at hs
              rcases List.mem_cons.1 hs with rfl | hs
              · exact hto.1
              · exact h4 s hs
            · rcases List.mem_cons.1 hs with rfl | hs
              · exact ⟨hto.2, by simp, by simp; omega⟩
              · have := h5 s hs
                exact ⟨this.1, by omega, by omega⟩
theorem scan_err : ∀ (f a : Nat) (l : List UInt8) (p : Nat) (x : Int), l.length < f → scanP f a l = .error (p, x) → (x = 2 ∨ x = 4) ∧ a ≤ p ∧ p < a + l.length
  | 0, a, l, p, x, hf, _ => by omega
  | f + 1, a, l, p, x, hf, h => by
    rw [scanP] at h
    split at h
    · cases h
    · rename_i hl
      have hpos : 0 < l.length := List.length_pos_iff.2 hl
      split at h
      · rename_i h0
        have hle := leftP_le l
        have := scan_err f (a + leftP l) (l.drop (leftP l)) p x (by rw [List.length_drop]; omega) h
        rw [List.length_drop] at this
        exact ⟨this.1, by omega, by omega⟩
      · cases ht : tokenP l with
        | error e =>
          rw [ht] at h
          injection h with h; injection h with h1 h2
          subst h1 h2
          exact ⟨tokenP_err ht, Nat.le_refl _, by omega⟩
        | ok q =>
          obtain ⟨t, k⟩ := q
          rw [ht] at h
          have hk := tokenP_size ht
          cases hr : scanP f (a + k) (l.drop k) with
          | ok us => simp only [hr] at h; cases h
          | error e =>
            obtain ⟨p', x'⟩ := e
            simp only [hr] at h
            injection h with h; injection h with h1 h2
            subst h1 h2
            have := scan_err f (a + k) (l.drop k) p' x' (by rw [List.length_drop]; omega) hr
            rw [List.length_drop] at this
            exact ⟨this.1, by omega, by omega⟩
end Go.Proofs.YtgpgmmkkmoecmaaGreatDoor

/- What is read is right, and is what is printed of it. -/
namespace Go.Proofs.YtgpgmmkkmoecmaaGreatDoor

theorem scopeB_mono {n : Nat} {l : List Int} (h : scopeB n l = true) : scopeB (n + 1) l = true := by
  simp only [scopeB, Bool.and_eq_true, decide_eq_true_eq] at h ⊢
  exact ⟨h.1, by omega⟩
theorem inDoms_mono {doms : List (List Int)} {d : List Int} : ∀ (s t : List Int), (∀ v ∈ s, 0 ≤ v ∧ v < doms.length) → inDoms doms s t = true → inDoms (doms ++ [d]) s t = true
  | [], _, _, _ => by simp only [inDoms]
  | _ :: _, [], _, _ => by simp only [inDoms]
  | v :: s, n :: t, hs, h => by
    simp only [inDoms, Bool.and_eq_true, decide_eq_true_eq] at h ⊢
    have hv := hs v (List.mem_cons_self ..)
    have e : nth [] (doms ++ [d]) v.toNat = nth [] doms v.toNat := by
      simp only [nth, List.getD_eq_getElem?_getD]
      rw [List.getElem?_append_left (by omega)]
    rw [e]
    exact ⟨h.1, inDoms_mono s t (fun w hw => hs w (List.mem_cons_of_mem _ hw)) h.2⟩
theorem rowsB_mono {doms : List (List Int)} {d : List Int} {s : List Int} (hs : ∀ v ∈ s, 0 ≤ v ∧ v < doms.length) : ∀ (l : List (List Int)) (p : Option (List Int)), rowsB doms s p l = true → rowsB (doms ++ [d]) s p l = true
  | [], _, _ => by simp only [rowsB]
  | t :: l, p, h => by
    simp only [rowsB, Bool.and_eq_true] at h ⊢
    exact ⟨⟨h.1.1, inDoms_mono s t hs h.1.2⟩, rowsB_mono hs l _ h.2⟩
theorem hardB_mono {x : Ins} {d : List Int} {c : Con} (h : hardB x c = true) : hardB { x with doms := x.doms ++ [d] } c = true := by
  simp only [hardB, Bool.and_eq_true] at h ⊢
  obtain ⟨⟨⟨⟨hs, hk1⟩, hk6⟩, hr⟩, hb⟩ := h
  have hrg := (scope_ok hs).1.2.2
  refine ⟨⟨⟨⟨by rw [List.length_append]; exact scopeB_mono hs, hk1⟩, hk6⟩, hr⟩, ?_⟩
  by_cases h6 : c.kind = 6
  · rw [if_pos h6] at hb ⊢; exact hb
  · rw [if_neg h6] at hb ⊢
    simp only [Bool.and_eq_true] at hb ⊢
    exact ⟨hb.1, rowsB_mono hrg _ _ hb.2⟩
theorem softB_mono {x : Ins} {d : List Int} {c : Sft} (h : softB x c = true) : softB { x with doms := x.doms ++ [d] } c = true := by
  simp only [softB, Bool.and_eq_true] at h ⊢
  obtain ⟨⟨⟨⟨hs, h1⟩, h2⟩, h3⟩, hb⟩ := h
  have hrg := (scope_ok hs).1.2.2
  exact ⟨⟨⟨⟨by rw [List.length_append]; exact scopeB_mono hs, h1⟩, h2⟩, h3⟩, rowsB_mono hrg _ _ hb⟩
theorem right_mk {x : Ins} (hd : DomsOk x.doms) (h1 : x.hard.length ≤ 200) (h2 : x.soft.length ≤ 200) (h3 : ∀ c ∈ x.hard, hardB x c = true) (h4 : ∀ s ∈ x.soft, softB x s = true) : rightB x = true := by
  simp only [rightB, Bool.and_eq_true, decide_eq_true_eq, List.all_eq_true]
  exact ⟨⟨⟨⟨⟨hd.1, h1⟩, h2⟩, hd.2⟩, h3⟩, h4⟩
theorem right_add {x : Ins} {st : St} (h : rightB x = true) (ho : okSt x st) : rightB (add x st) = true := by
  obtain ⟨hd, h1, h2, h3, h4⟩ := right_parts h
  cases st with
  | dom d =>
    refine right_mk (domsOk_add (st := .dom d) hd ho) h1 h2 (fun c hc => hardB_mono (h3 c hc)) (fun c hc => softB_mono (h4 c hc))
  | hard c =>
    refine right_mk hd (by have := ho.1; simp [add]; omega) h2 (fun k hk => ?_) h4
    rcases List.mem_append.1 hk with hk | hk
    · exact h3 k hk
    · rw [List.mem_singleton.1 hk]; exact ho.2
  | soft s =>
    refine right_mk hd h1 (by have := ho.1; simp [add]; omega) h3 (fun k hk => ?_)
    rcases List.mem_append.1 hk with hk | hk
    · exact h4 k hk
    · rw [List.mem_singleton.1 hk]; exact ho.2
theorem right_fold : ∀ (sts : List St) (x : Ins), rightB x = true → okAll x sts → rightB (sts.foldl add x) = true
  | [], _, h, _ => h
  | _ :: sts, _, h, ho => right_fold sts _ (right_add h ho.1) ho.2
theorem right_nil : rightB ⟨[], [], []⟩ = true := by decide

/-! ### How many bytes are printed -/
theorem nDigits_lt : ∀ (k u : Nat), u < 10 ^ (k + 1) → Lib.nDigits u ≤ k + 1
  | 0, u, h => by rw [Lib.nDigits_small (by simpa using h)]; exact Nat.le_refl _
  | k + 1, u, h => by
    by_cases h1 : u < 10
    · rw [Lib.nDigits_small h1]; omega
    · rw [Lib.nDigits_big h1]
      have := nDigits_lt k (u / 10) (by rw [Nat.pow_succ] at h; omega)
      omega
theorem dec_len (u : Nat) (hu : u ≤ 1000000000000) : (Lib.decDigits u).length ≤ 13 := by
  rw [Lib.decDigits_length]
  exact nDigits_lt 12 u (by omega)
theorem itoa_len {n : Int} (h : Fit n) : (Lib.itoa n).length ≤ 14 := by
  have h1 := h.1
  have h2 := h.2
  unfold Lib.itoa
  split
  · have := dec_len n.natAbs (by omega)
    simp only [List.length_cons] at *
    omega
  · have := dec_len n.toNat (by omega)
    omega
theorem nums_len : ∀ (l : List Int), Fits l → (numsP l).length ≤ 15 * (l.map nT).length
  | [], _ => by simp [numsP]
  | n :: l, hf => by
    have ih := nums_len l (fun k hk => hf (k + 1) (by simp; omega))
    have h0 : (Lib.itoa n).length ≤ 14 := itoa_len (hf 0 (by simp))
    have e : numsP (n :: l) = 32 :: (Lib.itoa n ++ numsP l) := by simp [numsP]
    rw [e]
    simp only [List.length_cons, List.length_append, List.length_map] at *
    omega
theorem comma_len (i : Nat) : (commaP i).length ≤ 15 * (if 0 < i then [sT 44] else []).length := by
  unfold commaP; split <;> simp
theorem rows_len : ∀ (l : List (List Int)) (i : Nat), (∀ t ∈ l, Fits t) → (rowsP i l).length ≤ 15 * (rowsK i l).length
  | [], i, _ => by simp [rowsP]
  | t :: l, i, h => by
    have h1 := nums_len t (h t (List.mem_cons_self ..))
    have h2 := rows_len l (i + 1) (fun u hu => h u (List.mem_cons_of_mem _ hu))
    have h3 := comma_len i
    rw [rowsP, rowsK]
    simp only [List.length_append] at *
    omega
theorem Fits.one {n : Int} (h : Fit n) : Fits [n] := fun k hk => by
  have : k = 0 := by simpa using hk
  subst this; exact h
theorem Fits.tail {n : Int} {l : List Int} (h : Fits (n :: l)) : Fits l := fun k hk => h (k + 1) (by simp; omega)
theorem Fits.head {n : Int} {l : List Int} (h : Fits (n :: l)) : Fit n := h 0 (by simp)
theorem lin_len : ∀ (a v : List Int) (i : Nat), Fits a → Fits v → (linP i a v).length ≤ 15 * (linK i a v).length
  | [], _, _, _, _ => by simp [linP]
  | _ :: _, [], _, _, _ => by simp [linP]
  | a :: aa, v :: vs, i, ha, hv => by
    have h1 := nums_len [a, v] (fun k hk => by
      have : k = 0 ∨ k = 1 := by simp at hk; omega
      rcases this with rfl | rfl
      · exact ha.head
      · exact hv.head)
    have h2 := lin_len aa vs (i + 1) ha.tail hv.tail
    have h3 := comma_len i
    rw [linP, linK]
    simp only [List.length_append, List.length_cons, List.length_nil, List.length_map] at *
    omega
theorem costs_len : ∀ (l : List (List Int)) (k : List Int), (∀ t ∈ l, Fits t) → Fits k → (costsP l k).length ≤ 15 * (costsK l k).length
  | [], _, _, _ => by simp [costsP]
  | _ :: _, [], _, _ => by simp [costsP]
  | t :: l, k :: ks, h, hk => by
    have h1 := nums_len t (h t (List.mem_cons_self ..))
    have h2 := costs_len l ks (fun u hu => h u (List.mem_cons_of_mem _ hu)) hk.tail
    have h3 := nums_len [k] (Fits.one hk.head)
    rw [costsP, costsK]
    simp only [List.length_append, List.length_cons, List.length_nil, List.length_map] at *
    omega
theorem word_len (k : Int) (h1 : 1 ≤ k) (h6 : k ≤ 6) : (nth [] wordsT k.toNat).length ≤ 7 := by
  have : k = 1 ∨ k = 2 ∨ k = 3 ∨ k = 4 ∨ k = 5 ∨ k = 6 := by omega
  rcases this with rfl | rfl | rfl | rfl | rfl | rfl <;> decide
theorem how_len (k : Int) (h1 : 0 ≤ k) (h6 : k ≤ 2) : (nth [] howsT k.toNat).length ≤ 7 := by
  have : k = 0 ∨ k = 1 ∨ k = 2 := by omega
  rcases this with rfl | rfl | rfl <;> decide
theorem st_len {st : St} (hf : fitSt st) : (stP st).length ≤ 15 * (stK st).length := by
  cases st with
  | dom d =>
    have h1 := nums_len d hf
    simp only [stP, stK, domK, varT, endT, List.length_append, List.length_cons, List.length_nil] at *
    omega
  | hard c =>
    obtain ⟨k1, k6, fs, fa, fr, f6⟩ := hf
    have hw := word_len c.kind k1 k6
    by_cases hk : c.kind = 6
    · obtain ⟨g1, g2, g3⟩ := f6 hk
      have hh := how_len _ g2 g3
      have h1 := lin_len c.args c.scope 0 fa fs
      have h2 := nums_len [nth 0 c.args (c.scope.length + 1)] (Fits.one (fa _ (by omega)))
      simp only [stP, stK, hardP, hardK, if_pos hk, endT, List.length_append, List.length_cons, List.length_nil, List.length_map] at *
      omega
    · have h1 := nums_len c.scope fs
      by_cases h2 : 2 < c.kind
      · simp only [stP, stK, hardP, hardK, if_neg hk, if_pos h2, endT, List.length_append, List.length_cons, List.length_nil, List.length_map] at *
        omega
      · have h3 := rows_len c.rows 0 fr
        simp only [stP, stK, hardP, hardK, if_neg hk, if_neg h2, endT, List.length_append, List.length_cons, List.length_nil, List.length_map] at *
        omega
  | soft s =>
    obtain ⟨fs, fd, fr, fc⟩ := hf
    have h1 := nums_len s.scope fs
    have h2 := nums_len [s.dflt] (Fits.one fd)
    have h3 := costs_len s.rows s.costs fr fc
    simp only [stP, stK, softP, softK, softT, endT, List.length_append, List.length_cons, List.length_nil, List.length_map] at *
    omega
theorem sts_len : ∀ (sts : List St), (∀ st ∈ sts, fitSt st) → (sts.flatMap stP).length ≤ 15 * (sts.flatMap stK).length
  | [], _ => by simp
  | st :: sts, h => by
    have h1 := st_len (h st (List.mem_cons_self ..))
    have h2 := sts_len sts (fun s hs => h s (List.mem_cons_of_mem _ hs))
    rw [List.flatMap_cons, List.flatMap_cons, List.length_append, List.length_append]
    omega
theorem print_len {x : Ins} (h : rightB x = true) : (printP x).length ≤ 15 * ((stsOf x).flatMap stK).length := by
  rw [print_sts h]
  exact sts_len _ (fit_all _ _ domsOk_nil (ok_of h).1)
theorem toks_add (x : Ins) (st : St) : ((stsOf (add x st)).flatMap stK).length = ((stsOf x).flatMap stK).length + (stK st).length := by
  cases st <;> simp [stsOf, add] <;> omega
theorem toks_fold : ∀ (sts : List St) (x : Ins), ((stsOf (sts.foldl add x)).flatMap stK).length = ((stsOf x).flatMap stK).length + (sts.flatMap stK).length
  | [], x => by simp
  | st :: sts, x => by
    rw [List.foldl_cons, toks_fold sts, toks_add, List.flatMap_cons, List.length_append]
    omega

/-! ### What is told of a text -/
theorem parse_wrong {l : List UInt8} {p x : Int} (h : parseP l = .error (p, x)) : x ≠ 0 ∧ 0 ≤ p ∧ p ≤ l.length := by
  unfold parseP at h
  split at h
  · rename_i p' x' ha
    injection h with h; injection h with h1 h2
    subst h1 h2
    unfold allP at ha
    split at ha
    · injection ha with ha; injection ha with h1 h2
      subst h1 h2
      exact ⟨by decide, by simp, by simp⟩
    · obtain ⟨h1, h2, h3⟩ := scan_err _ _ _ _ _ (Nat.lt_succ_self _) ha
      exact ⟨by rcases h1 with rfl | rfl <;> decide, by omega, by omega⟩
  · rename_i ts ha
    unfold allP at ha
    split at ha
    · cases ha
    · obtain ⟨c, E, rfl, hE, hat, _, hc, hl⟩ := scan_ok _ _ _ _ (Nat.lt_succ_self _) ha
      have hz := loc_stmts ((c ++ [E]).length + 1) ⟨[], [], []⟩ c E hE (fun t ht => (hc t ht).1) (by simp; omega)
      rw [LocZ, h] at hz
      refine ⟨hz.1, ?_⟩
      rcases hz.2 with h2 | ⟨⟨t, ht, h2⟩, _⟩
      · omega
      · have := hc t ht; omega
theorem parse_told {l : List UInt8} {y : Ins} (h : parseP l = .ok y) : rightB y = true ∧ (printP y).length ≤ 15 * l.length := by
  unfold parseP at h
  split at h
  · cases h
  · rename_i ts ha
    unfold allP at ha
    split at ha
    · cases ha
    · obtain ⟨c, E, rfl, hE, hat, hok, hc, hl⟩ := scan_ok _ _ _ _ (Nat.lt_succ_self _) ha
      obtain ⟨sts, c2, e, r, rfl, ho, hts, he, hcs⟩ := stmtsQ_s _ _ _ _ hok (by simp) h
      have hr := right_fold sts ⟨[], [], []⟩ right_nil ho
      refine ⟨hr, ?_⟩
      have h1 := print_len hr
      rw [toks_fold, ← hcs, List.length_map] at h1
      have h2 := congrArg List.length hts
      simp only [List.length_append, List.length_cons, List.length_nil] at h2
      have h3 : ((stsOf ⟨[], [], []⟩).flatMap stK).length = 0 := rfl
      omega
/-- What is read of a text that is not long is right, and is what is printed of it. -/
theorem parse_back {l : List UInt8} {y : Ins} (hl : l.length ≤ 6000) (h : parseP l = .ok y) : rightB y = true ∧ (printP y).length ≤ 100000 ∧ parseP (printP y) = .ok y := by
  obtain ⟨h1, h2⟩ := parse_told h
  exact ⟨h1, by omega, parse_print h1 (by omega)⟩
end Go.Proofs.YtgpgmmkkmoecmaaGreatDoor

/- How many signs a text has. -/
namespace Go.Proofs.YtgpgmmkkmoecmaaGreatDoor

theorem flat_len {α β : Type} (f : α → List β) (n : Nat) : ∀ (l : List α), (∀ a ∈ l, (f a).length ≤ n) → (l.flatMap f).length ≤ l.length * n
  | [], _ => by simp
  | a :: l, h => by
    have h1 := h a (List.mem_cons_self ..)
    have h2 := flat_len f n l fun b hb => h b (List.mem_cons_of_mem _ hb)
    rw [List.flatMap_cons, List.length_append, List.length_cons, Nat.succ_mul]
    omega
theorem rowsK_len : ∀ (l : List (List Int)) (i : Nat), (∀ t ∈ l, t.length ≤ 6) → (rowsK i l).length ≤ l.length * 7
  | [], _, _ => by simp [rowsK]
  | t :: l, i, h => by
    have h1 := h t (List.mem_cons_self ..)
    have h2 := rowsK_len l (i + 1) fun b hb => h b (List.mem_cons_of_mem _ hb)
    have h3 : (if 0 < i then [sT 44] else []).length ≤ 1 := by split <;> simp
    rw [rowsK]
    simp only [List.length_append, List.length_map, List.length_cons] at *
    omega
theorem linK_len : ∀ (a v : List Int) (i : Nat), (linK i a v).length ≤ v.length * 3
  | [], _, _ => by simp [linK]
  | _ :: _, [], _ => by simp [linK]
  | a :: aa, v :: vs, i => by
    have h2 := linK_len aa vs (i + 1)
    have h3 : (if 0 < i then [sT 44] else []).length ≤ 1 := by split <;> simp
    rw [linK]
    simp only [List.length_append, List.length_cons, List.length_nil] at *
    omega
theorem costsK_len : ∀ (l : List (List Int)) (k : List Int), (∀ t ∈ l, t.length ≤ 6) → (costsK l k).length ≤ l.length * 8
  | [], _, _ => by simp [costsK]
  | _ :: _, [], _ => by simp [costsK]
  | t :: l, k :: ks, h => by
    have h1 := h t (List.mem_cons_self ..)
    have h2 := costsK_len l ks fun b hb => h b (List.mem_cons_of_mem _ hb)
    rw [costsK]
    simp only [List.length_append, List.length_map, List.length_cons, List.length_nil] at *
    omega
theorem rows_six {x : Ins} {scope : List Int} {rows : List (List Int)} {o : Option (List Int)} (hd : DomsOk x.doms) (hs : scopeB x.doms.length scope = true) (h : rowsB x.doms scope o rows = true) : ∀ t ∈ rows, t.length ≤ 6 := by
  intro t ht
  obtain ⟨i, hi, rfl⟩ := mem_nth [] ht
  have h1 := (rowsB_fits (doms_fit hd) (scopeB_range hs) rows o h i hi).1
  have h2 := (scope_ok hs).1.1
  omega
end Go.Proofs.YtgpgmmkkmoecmaaGreatDoor

/- The text of a right instance of at most a thousand rows of each constraint is not too long. -/
namespace Go.Proofs.YtgpgmmkkmoecmaaGreatDoor

theorem print_small (z : Ins) (h : rightB z = true) (kh : ∀ c ∈ z.hard, c.rows.length ≤ 1000) (ks : ∀ c ∈ z.soft, c.rows.length ≤ 1000) : (printP z).length ≤ 140737488355328 := by
  obtain ⟨hd, h1, h2, h3, h4⟩ := right_parts h
  have hp := print_len h
  have l1 : ((z.doms.map St.dom).flatMap stK).length ≤ z.doms.length * 18 := by
    rw [List.flatMap_map]
    refine flat_len _ 18 _ fun d hdm => ?_
    have := hd.2 d hdm
    simp only [domainB, Bool.and_eq_true, decide_eq_true_eq] at this
    simp only [stK, domK, List.length_append, List.length_cons, List.length_nil, List.length_map]
    omega
  have l2 : ((z.hard.map St.hard).flatMap stK).length ≤ z.hard.length * 7030 := by
    rw [List.flatMap_map]
    refine flat_len _ 7030 _ fun c hc => ?_
    have hb := h3 c hc
    have hr := kh c hc
    simp only [hardB, Bool.and_eq_true] at hb
    obtain ⟨⟨⟨⟨hs, _⟩, _⟩, _⟩, hrest⟩ := hb
    have hs6 := (scope_ok hs).1.1
    by_cases hk : c.kind = 6
    · have := linK_len c.args c.scope 0
      simp only [stK, hardK, if_pos hk, List.length_append, List.length_cons, List.length_nil] at *
      omega
    · rw [if_neg hk] at hrest
      simp only [Bool.and_eq_true] at hrest
      have hr2 := rowsK_len c.rows 0 (rows_six hd hs hrest.2)
      simp only [stK, hardK, if_neg hk, List.length_append, List.length_cons, List.length_nil, List.length_map]
      split
      · simp; omega
      · simp only [List.length_append, List.length_cons, List.length_nil]; omega
  have l3 : ((z.soft.map St.soft).flatMap stK).length ≤ z.soft.length * 8030 := by
    rw [List.flatMap_map]
    refine flat_len _ 8030 _ fun c hc => ?_
    have hb := h4 c hc
    have hr := ks c hc
    simp only [softB, Bool.and_eq_true] at hb
    obtain ⟨⟨⟨⟨hs, _⟩, _⟩, _⟩, hrest⟩ := hb
    have hs6 := (scope_ok hs).1.1
    have hr2 := costsK_len c.rows c.costs (rows_six hd hs hrest)
    simp only [stK, softK, List.length_append, List.length_cons, List.length_nil, List.length_map]
    omega
  have n1 : z.doms.length ≤ 40 := hd.1
  have n2 : z.hard.length ≤ 200 := h1
  have n3 : z.soft.length ≤ 200 := h2
  have hs : ((stsOf z).flatMap stK).length = ((z.doms.map St.dom).flatMap stK).length + (((z.hard.map St.hard).flatMap stK).length + ((z.soft.map St.soft).flatMap stK).length) := by
    simp only [stsOf, List.flatMap_append, List.length_append]
  omega
end Go.Proofs.YtgpgmmkkmoecmaaGreatDoor

/- arboristtop.TopPrints. -/
namespace Go.Proofs.YtgpgmmkkmoecmaaGreatDoor
open Go.RowKit
attribute [local irreducible] wpStill wpLex Calls

theorem tab_below {w w' : World} {name : String} {k : IntKind} {zs : List Int} {B g : Nat} (hg : Tryz.prog.globalNamed name = some g) (hB : g < B) (h : Lib.TabIs Tryz.prog w name k zs) (hb : Below B w w') : Lib.TabIs Tryz.prog w' name k zs :=
  (var_kept hg hB hb).trans h
theorem small_all {α : Type} [Inhabited α] {f : α → Nat} {l : List α} (hl : l.length ≤ 200) (h : ∀ j, j < l.length → j < 201 → f (nth default l j) ≤ 1000) : ∀ c ∈ l, f c ≤ 1000 := by
  intro c hc
  obtain ⟨i, hi, rfl⟩ := mem_nth default hc
  exact h i hi (by omega)
set_option maxRecDepth 100000 in
set_option maxHeartbeats 8000000 in
theorem prints_law (vD vH vS : Value) (x : Ins) (okv : Nat → Prop) (w : World) (hE : Env w) (hd : Lib.TabIs Tryz.prog w "math/bits.deBruijn64tab" .u8 debZ) (hx : InsAt w okv vD vH vS x) :
    Calls Tryz.prog 4 #[.agg #[vD, vH, vS]] w fun e w' => e = .returned (.bool true) ∧ Below w.heap.size w w' := by
  have HS := Lib.hid (fun W (hb : Below w.heap.size w W) => works_any (W := W) (hE.below hb hE.size).env0 (hE.below hb hE.size).tabs (hE.below hb hE.size).size (tab_below (g := 3) (by kernel_rfl) (by have := hE.size; omega) hd hb))
  have HE := Lib.hid hE
  have HX := Lib.hid hx
  obtain ⟨⟨AD, cD, rfl, _⟩, ⟨AH, cH, rfl, _⟩, ⟨AS, cS, rfl, _⟩⟩ := hx
  clear hE hd
  have HB0 := Lib.hid (below_alloc1 w (.cells #[.slice AD x.doms.length cD, .slice AH x.hard.length cH, .slice AS x.soft.length cS] 30))
  have HC0 := Lib.hid (heap_alloc_new w (.cells #[.slice AD x.doms.length cD, .slice AH x.hard.length cH, .slice AS x.soft.length cS] 30))
  go_enter Tryz.func4, Tryz.ntmps4
  go_upto_block 0 with (first
    | (go_at_call 5; refine (HS.out _ HB0.out).mono ?_; rintro e w1 ⟨rfl, hb⟩; (have HB1 := Lib.hid (below_next HB0.out hb)); (have HC1 := Lib.hid (block_kept hb HC0.out)); (have x0 := cell_at HC1.out (i := 0) rfl); (have x1 := cell_at HC1.out (i := 1) rfl); (have x2 := cell_at HC1.out (i := 2) rfl); clear hb HS HB0 HC0)
    | (go_at_call 7; (have HI1 := Lib.hid (HX.out.below HB1.out)); refine (refright_any _ _ _ x okv w1 HI1.out.1 HI1.out.2.1 HI1.out.2.2).mono ?_; rintro e w2 ⟨rfl, hb⟩; (have HB2 := Lib.hid (below_next HB1.out hb)); (have HC2 := Lib.hid (block_kept hb HC1.out)); (have HI2 := Lib.hid (HI1.out.below hb)); clear hb HI1 HB1 HC1 HX x0 x1 x2))
  go_cut [5] from 14 to 33 (fun _ wx => Hid (∀ j, j < x.hard.length → j < 201 → (nth default x.hard j).rows.length ≤ 1000) ∧ Hid (Below w2.heap.size w2 wx))
  case first =>
    go_wp2_with fail
    go_loopw [5] (fun i wr => ∃ k : Nat, i = .int .i64 k ∧ k ≤ x.hard.length ∧ k ≤ 201 ∧ Hid (∀ j, j < k → (nth default x.hard j).rows.length ≤ 1000) ∧ Hid (Below w2.heap.size w2 wr)) (fun i _ => x.hard.length - (intOf i).toNat)
    case atStart => exact ⟨0, rfl, by omega, by omega, Lib.hid (fun j hj => by omega), Lib.hid (Below.refl _ _)⟩
    case round =>
      obtain ⟨k, rfl, hk, hk2, HA, HW⟩ := hrel
      have hx := block_kept HW.out HC2.out
      have x1 := cell_at hx (i := 1) rfl
      have HCr := Lib.hid hx
      clear hx
      by_cases hkl : k < x.hard.length
      · by_cases h2 : k < 201
        · obtain ⟨b, o, cs, rfl, _, hK, hcell⟩ := HI2.out.2.1.elems k (nth default x.hard k) (nth_get default x.hard k hkl)
          obtain ⟨vs, vr, va, rfl, e1, e2, e3⟩ := kCon_cells hK
          obtain ⟨Ar, cr, rfl, hcr, _⟩ := e2
          have f2 := cell_kept HW.out (hcell 2 _ rfl)
          simp only [show kCon.sz = 4 from rfl, Nat.add_zero, ← Nat.add_assoc] at f2
          clear hcell hK e1 e3
          by_cases hr : 1000 < (nth default x.hard k).rows.length
          · go_wp2_with fail
            go_ret
            exact ⟨rfl, HB2.out.trans (HW.out.mono HB2.out.size)⟩
          · go_wp2_with fail
            go_roundw
            case rel => exact ⟨k + 1, by go_num, by omega, by omega, Lib.hid (fun j hj => by
              by_cases e : j = k
              · subst e; omega
              · exact HA.out j (by omega)), HW⟩
            case measure => simp [intOf]; omega
        · go_wp2_with fail
          go_meet
          exact ⟨Lib.hid (fun j h1 h2 => HA.out j (by omega)), HW⟩
      · go_wp2_with fail
        go_meet
        exact ⟨Lib.hid (fun j h1 h2 => HA.out j (by omega)), HW⟩
  case rest =>
    obtain ⟨HRH, HW3⟩ := hcut
    have hx := block_kept HW3.out HC2.out
    have HC3 := Lib.hid hx
    have HI3 := Lib.hid (HI2.out.below HW3.out)
    have HB3 := Lib.hid (HB2.out.trans (HW3.out.mono HB2.out.size))
    clear hx HI2 HC2 HB2 HW3
    go_upto_block 2 with fail
    go_cut [6] from 34 to 53 (fun _ wx => Hid (∀ j, j < x.soft.length → j < 201 → (nth default x.soft j).rows.length ≤ 1000) ∧ Hid (Below wc.heap.size wc wx))
    case first =>
      go_wp2_with fail
      go_loopw [6] (fun i wr => ∃ k : Nat, i = .int .i64 k ∧ k ≤ x.soft.length ∧ k ≤ 201 ∧ Hid (∀ j, j < k → (nth default x.soft j).rows.length ≤ 1000) ∧ Hid (Below wc.heap.size wc wr)) (fun i _ => x.soft.length - (intOf i).toNat)
      case atStart => exact ⟨0, rfl, by omega, by omega, Lib.hid (fun j hj => by omega), Lib.hid (Below.refl _ _)⟩
      case round =>
        obtain ⟨k, rfl, hk, hk2, HA, HW⟩ := hrel
        have hx := block_kept HW.out HC3.out
        have x2 := cell_at hx (i := 2) rfl
        have HCr := Lib.hid hx
        clear hx
        by_cases hkl : k < x.soft.length
        · by_cases h2 : k < 201
          · obtain ⟨b, o, cs, rfl, _, hK, hcell⟩ := HI3.out.2.2.elems k (nth default x.soft k) (nth_get default x.soft k hkl)
            obtain ⟨vs, vr, va, rfl, e1, e2, e3⟩ := kSft_cells hK
            obtain ⟨Ar, cr, rfl, hcr, _⟩ := e2
            have f1 := cell_kept HW.out (hcell 1 _ rfl)
            simp only [show kSft.sz = 4 from rfl, ← Nat.add_assoc] at f1
            clear hcell hK e1 e3
            by_cases hr : 1000 < (nth default x.soft k).rows.length
            · go_wp2_with fail
              go_ret
              exact ⟨rfl, HB3.out.trans (HW.out.mono HB3.out.size)⟩
            · go_wp2_with fail
              go_roundw
              case rel => exact ⟨k + 1, by go_num, by omega, by omega, Lib.hid (fun j hj => by
                by_cases e : j = k
                · subst e; omega
                · exact HA.out j (by omega)), HW⟩
              case measure => simp [intOf]; omega
          · go_wp2_with fail
            go_meet
            exact ⟨Lib.hid (fun j h1 h2 => HA.out j (by omega)), HW⟩
        · go_wp2_with fail
          go_meet
          exact ⟨Lib.hid (fun j h1 h2 => HA.out j (by omega)), HW⟩
    case rest =>
      obtain ⟨HRS, HW4⟩ := hcut
      have hx := block_kept HW4.out HC3.out
      have HC4 := Lib.hid hx
      have HI4 := Lib.hid (HI3.out.below HW4.out)
      have HB4 := Lib.hid (HB3.out.trans (HW4.out.mono HB3.out.size))
      have x0 := cell_at hx (i := 0) rfl
      have x1 := cell_at hx (i := 1) rfl
      have x2 := cell_at hx (i := 2) rfl
      have HR4 := Lib.hid (right_any _ _ _ x okv wc HI4.out.1 HI4.out.2.1 HI4.out.2.2)
      clear hx HI3 HC3 HB3 HW4
      cases hr : rightB x
      · have hp : printP x = [] := by rw [printP, if_neg (by rw [hr]; decide)]
        have hP := fun W hw => print_any (.slice AD x.doms.length cD) (.slice AH x.hard.length cH) (.slice AS x.soft.length cS) x okv W hw
        rw [hp] at hP
        have HP := Lib.hid hP
        rw [hr] at HR4
        clear hP hr hp HRH HRS
        go_wp2_with (first
          | (go_at_call 8; refine HR4.out.mono ?_; rintro e w5 ⟨rfl, hb⟩; (have HC5 := Lib.hid (block_kept hb HC4.out)); (have HI5 := Lib.hid (HI4.out.below hb)); (have HB5 := Lib.hid (below_next HB4.out hb)); (have x0 := cell_at HC5.out (i := 0) rfl); (have x1 := cell_at HC5.out (i := 1) rfl); (have x2 := cell_at HC5.out (i := 2) rfl); clear hb HR4 HC4 HI4 HB4)
          | (go_at_call 9; refine (HP.out _ (HE.out.below HB5.out HE.out.size) HI5.out.1 HI5.out.2.1 HI5.out.2.2 (by decide)).mono ?_; rintro e w6 ⟨rfl, hb⟩; (have HB6 := Lib.hid (below_next HB5.out hb)); clear hb HP HI5 HB5))
        go_ret
        exact ⟨rfl, HB6.out⟩
      · have hrp := right_parts hr
        have hsm := print_small x hr (small_all hrp.2.1 HRH.out) (small_all hrp.2.2.1 HRS.out)
        have HP := Lib.hid (fun W hw => print_any (.slice AD x.doms.length cD) (.slice AH x.hard.length cH) (.slice AS x.soft.length cS) x okv W hw)
        rw [hr] at HR4
        have HRT := Lib.hid hr
        clear hr hrp HRH HRS
        by_cases hl : (printP x).length ≤ 100000
        · have HQP := Lib.hid (parse_print HRT.out hl)
          have hll : ¬ (100000 : Int) < (printP x).length := by omega
          go_wp2_with (first
            | (go_at_call 8; refine HR4.out.mono ?_; rintro e w5 ⟨rfl, hb⟩; (have HC5 := Lib.hid (block_kept hb HC4.out)); (have HI5 := Lib.hid (HI4.out.below hb)); (have HB5 := Lib.hid (below_next HB4.out hb)); (have x0 := cell_at HC5.out (i := 0) rfl); (have x1 := cell_at HC5.out (i := 1) rfl); (have x2 := cell_at HC5.out (i := 2) rfl); clear hb HR4 HC4 HI4 HB4)
            | (go_at_call 9; refine (HP.out _ (HE.out.below HB5.out HE.out.size) HI5.out.1 HI5.out.2.1 HI5.out.2.2 hsm).mono ?_; rintro e w6 ⟨rfl, hb⟩; (have HC6 := Lib.hid (block_kept hb HC5.out)); (have HI6 := Lib.hid (HI5.out.below hb)); (have HB6 := Lib.hid (below_next HB5.out hb)); (have HQ := Lib.hid (reads_ok (printP x) x w6 (HE.out.below (below_next HB5.out hb) HE.out.size) hsm HQP.out)); clear hb HP HI5 HB5 HC5 x0 x1 x2)
            | (go_at_call 10; refine HQ.out.mono ?_; rintro e w7 ⟨⟨DA2, Dc2, HA2, Hc2, SA2, Sc2, rfl, hj, _⟩, hb⟩; (have hbe := below_alloc1 w7 (.cells #[.slice DA2 x.doms.length Dc2, .slice HA2 x.hard.length Hc2, .slice SA2 x.soft.length Sc2] 30)); (have HC7 := Lib.hid (block_kept hbe (block_kept hb HC6.out))); (have HY7 := Lib.hid (heap_alloc_new w7 (.cells #[.slice DA2 x.doms.length Dc2, .slice HA2 x.hard.length Hc2, .slice SA2 x.soft.length Sc2] 30))); (have HI7 := Lib.hid ((((HI6.out.below hb).below hbe).mono (ok' := Any) (fun _ _ => trivial)))); (have HJ7 := Lib.hid (hj.below hbe)); (have HB7 := Lib.hid (below_next (below_next HB6.out hb) hbe)); (have x0 := cell_at HC7.out (i := 0) rfl); (have x1 := cell_at HC7.out (i := 1) rfl); (have x2 := cell_at HC7.out (i := 2) rfl); (have y0 := cell_at HY7.out (i := 0) rfl); (have y1 := cell_at HY7.out (i := 1) rfl); (have y2 := cell_at HY7.out (i := 2) rfl); clear hj hb hbe HQ HC6 HI6 HB6)
            | (go_at_call 11; refine (same_any _ _ _ _ _ _ _ _ Any _ HI7.out HJ7.out).mono ?_; rintro e w8 ⟨rfl, hb⟩; (have HB8 := Lib.hid (below_next HB7.out hb)); clear hb HI7 HJ7 HB7))
          go_ret
          exact ⟨ret_bool (by simp), HB8.out⟩
        · have hll : (100000 : Int) < (printP x).length := by omega
          go_wp2_with (first
            | (go_at_call 8; refine HR4.out.mono ?_; rintro e w5 ⟨rfl, hb⟩; (have HC5 := Lib.hid (block_kept hb HC4.out)); (have HI5 := Lib.hid (HI4.out.below hb)); (have HB5 := Lib.hid (below_next HB4.out hb)); (have x0 := cell_at HC5.out (i := 0) rfl); (have x1 := cell_at HC5.out (i := 1) rfl); (have x2 := cell_at HC5.out (i := 2) rfl); clear hb HR4 HC4 HI4 HB4)
            | (go_at_call 9; refine (HP.out _ (HE.out.below HB5.out HE.out.size) HI5.out.1 HI5.out.2.1 HI5.out.2.2 hsm).mono ?_; rintro e w6 ⟨rfl, hb⟩; (have HB6 := Lib.hid (below_next HB5.out hb)); clear hb HP HI5 HB5))
          go_ret
          exact ⟨rfl, HB6.out⟩
end Go.Proofs.YtgpgmmkkmoecmaaGreatDoor

/- The table of package math/bits, from what a row lays. -/
namespace Go.Proofs.YtgpgmmkkmoecmaaGreatDoor
open Go.ChangeShapes Go.WideShapes Go.ChangeAt Go.RowKit
theorem tab_of_laid {W : World} (h : laidMetH Tryz.prog rowLaid W) : Lib.TabIs Tryz.prog W "math/bits.deBruijn64tab" .u8 debZ := by
  have h1 : laidMet Tryz.prog rowLaid W := h
  have h2 := h1.tail
  exact Lib.tabIs_of_head (g := 3) (t := 329) (by kernel_rfl) (by kernel_rfl) Tryz.underlying329 Tryz.underlying5 (by kernel_rfl) (by kernel_rfl) h2
end Go.Proofs.YtgpgmmkkmoecmaaGreatDoor

/- What a row asks of the program, put together from parts. No program. -/
namespace Go.Proofs.YtgpgmmkkmoecmaaGreatDoor
open Go

theorem joined_of {P : Program} {f : FuncId} {fn : Func} {s : ChangeSpec} {c : OpenClaim}
    (a1 : c.wf (OpenSpec.ofChange s) = true) (a2 : laidOutB P = true) (a3 : mapsRowed P = true) (a4 : fn.params.all (P.readableRec ·) = true) (a5 : namedTie P c.named s.vars = true)
    (a6 : (c.stops == []) = true) (a7 : P.stops = []) (a8 : (c.knobs == []) = true) (a9 : P.stopKnobs = [])
    (b1 : P.inPlace f = c.inPlace) (b2 : P.unfollowed f = c.unfollowed) (b3 : P.recurses f = c.recurses) (b4 : P.varsNamed f = c.named)
    (c1 : (c.maps == (fn.params.toList ++ s.plain.varTypes P).any (P.mapsRec ·)) = true) (c2 : (c.ifaces == (fn.params.toList ++ s.plain.varTypes P).any (P.ifacesRec ·)) = true) (c3 : (c.mapsOut == P.mapsAmong fn.resultTypes.toList) = true)
    (c4 : (c.loops == (fn.params.toList ++ s.plain.varTypes P).any (P.loopsFrom ·)) = true) (c5 : (c.wideKeys == (fn.params.toList ++ s.plain.varTypes P ++ fn.resultTypes.toList).any (P.wideKeysFrom ·)) = true)
    (d1 : s.vars.all (P.varReadable ·) = true) (d2 : fn.resultTypes.all (fun t => P.readableRec t && decide (t < P.types.size)) = true) (d3 : (c.ifacesOut == fn.resultTypes.toList.any (P.ifacesRec ·)) = true) (d4 : (c.loopsOut == fn.resultTypes.toList.any (P.loopsFrom ·)) = true)
    (d5 : P.plainKeys = c.plainKeys) (d6 : c.shortTexts.isNone = true) (d7 : P.stopsHeard = true) (d8 : P.mayEnter = true) (d9 : P.liftsFinal = c.lifted) (e1 : (P.make == some c.make) = true)
    (e2 : (c.kinds == (if c.domain.isEmpty then [] else fn.params.toList.map fun t => match P.underlying t with | some (.int k) => some k | _ => none)) = true) (e3 : (c.pinned == c.pinnedBy) = true)
    (e4 : (c.veiled == (fn.params.toList ++ s.plain.varTypes P ++ fn.resultTypes.toList).any (P.veiledRec ·)) = true) (e5 : c.veiledFits P fn.params.toList (fn.params.toList ++ s.plain.varTypes P ++ fn.resultTypes.toList) = true) :
    joinedFacts P f fn s c = true := by
  have a7' : (P.stops == []) = true := beq_iff_eq.2 a7
  have a9' : (P.stopKnobs == []) = true := beq_iff_eq.2 a9
  have b1' : (c.inPlace == P.inPlace f) = true := beq_iff_eq.2 b1.symm
  have b2' : (c.unfollowed == P.unfollowed f) = true := beq_iff_eq.2 b2.symm
  have b3' : (c.recurses == P.recurses f) = true := beq_iff_eq.2 b3.symm
  have b4' : (c.named == P.varsNamed f) = true := beq_iff_eq.2 b4.symm
  have d5' : (c.plainKeys == P.plainKeys) = true := beq_iff_eq.2 d5.symm
  have d9' : (c.lifted == P.liftsFinal) = true := beq_iff_eq.2 d9.symm
  unfold joinedFacts
  simp only [Bool.and_eq_true]
  repeat' (first | assumption | apply And.intro)
end Go.Proofs.YtgpgmmkkmoecmaaGreatDoor

/- Facts about the program that its claims ask for, one at a time. -/
namespace Go.Proofs.YtgpgmmkkmoecmaaGreatDoor
theorem fact_mapsRowed : mapsRowed Tryz.prog = true := by kernel_rfl
theorem fact_stopsHeard : Tryz.prog.stopsHeard = true := by kernel_rfl
theorem fact_mayEnter : Tryz.prog.mayEnter = true := by kernel_rfl
theorem fact_lifts : Tryz.prog.liftsFinal = Rows.topNamesRow.lifted := by kernel_rfl
theorem fact_keys : Tryz.prog.plainKeys = Rows.topNamesRow.plainKeys := by kernel_rfl
theorem fact_stops : Tryz.prog.stops = [] := by kernel_rfl
theorem fact_knobs : Tryz.prog.stopKnobs = [] := by kernel_rfl
end Go.Proofs.YtgpgmmkkmoecmaaGreatDoor

/- Facts about the program that the row of arboristtop.TopPrints asks for. -/
namespace Go.Proofs.YtgpgmmkkmoecmaaGreatDoor.topPrints
open Go.ChangeShapes Go.WideShapes Go.ChangeAt Go.RowKit
theorem inPlace : Tryz.prog.inPlace 4 = Rows.topPrintsRow.inPlace := by kernel_rfl
theorem unfollowed : Tryz.prog.unfollowed 4 = Rows.topPrintsRow.unfollowed := by kernel_rfl
theorem recurses : Tryz.prog.recurses 4 = Rows.topPrintsRow.recurses := by kernel_rfl
theorem named : Tryz.prog.varsNamed 4 = Rows.topPrintsRow.named := by kernel_rfl
theorem closed : joinedFacts Tryz.pinned.checked.prog 4 Tryz.f4 (OpenSpec.ofChange Rows.topPrintsSpec).bare Rows.topPrintsRow = true :=
  joined_of (by kernel_rfl) laid_out fact_mapsRowed (by kernel_rfl) (by kernel_rfl) (by kernel_rfl) fact_stops (by kernel_rfl) fact_knobs inPlace unfollowed recurses named
    (by kernel_rfl) (by kernel_rfl) (by kernel_rfl) (by kernel_rfl) (by kernel_rfl) (by kernel_rfl) (by kernel_rfl) (by kernel_rfl) (by kernel_rfl) fact_keys (by kernel_rfl) fact_stopsHeard fact_mayEnter fact_lifts (by kernel_rfl) (by kernel_rfl) (by kernel_rfl) (by kernel_rfl) (by kernel_rfl)
end Go.Proofs.YtgpgmmkkmoecmaaGreatDoor.topPrints
