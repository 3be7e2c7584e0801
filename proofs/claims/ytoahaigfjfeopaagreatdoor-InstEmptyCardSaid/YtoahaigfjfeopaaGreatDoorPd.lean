/- Plain laws: the numbers of a right instance fit. -/
import Derived.Test.YtoahaigfjfeopaaGreatDoorPc
namespace Go.Proofs.YtoahaigfjfeopaaGreatDoor

theorem rising_step {l : List Int} (hr : risingB l = true) : ∀ k, k + 1 < l.length → nth 0 l k < nth 0 l (k + 1) := by
  intro k hk
  have : risingB (l.drop k) = true := by
    induction k with
    | zero => exact hr
    | succ k ih =>
      have := ih (by omega)
      rw [risingB_drop l k (by omega)] at this
      simp only [Bool.and_eq_true] at this
      exact this.2
  rw [risingB_drop l k hk] at this
  simp only [Bool.and_eq_true, decide_eq_true_eq] at this
  exact this.1
theorem rising_mono {l : List Int} (hr : risingB l = true) : ∀ (j k : Nat), j + k < l.length → nth 0 l k ≤ nth 0 l (j + k) := by
  intro j
  induction j with
  | zero => intro k _; simp
  | succ j ih =>
    intro k hk
    have a := ih k (by omega)
    have b := rising_step hr (j + k) (by omega)
    rw [show j + 1 + k = j + k + 1 from by omega]
    omega
theorem rising_between {l : List Int} (hr : risingB l = true) {k : Nat} (hk : k < l.length) : nth 0 l 0 ≤ nth 0 l k ∧ nth 0 l k ≤ nth 0 l (l.length - 1) := by
  have a := rising_mono hr k 0 (by omega)
  have b := rising_mono hr (l.length - 1 - k) k (by omega)
  rw [show l.length - 1 - k + k = l.length - 1 from by omega] at b
  exact ⟨a, b⟩
theorem small_bounds {n m : Int} (h : smallB n m = true) : -m ≤ n ∧ n ≤ m := by
  simpa [smallB] using h
def Fit6 (n : Int) : Prop := -1000000 ≤ n ∧ n ≤ 1000000
theorem Fit6.fit {n : Int} (h : Fit6 n) : Fit n := ⟨by have := h.1; omega, by have := h.2; omega⟩
theorem domainB_fits {d : List Int} (h : domainB d = true) : ∀ k, k < d.length → Fit6 (nth 0 d k) := by
  simp only [domainB, Bool.and_eq_true, decide_eq_true_eq] at h
  obtain ⟨⟨⟨⟨_, _⟩, hr⟩, h1⟩, h2⟩ := h
  intro k hk
  have hb := rising_between hr hk
  have a := small_bounds h1
  have b := small_bounds h2
  exact ⟨by omega, by omega⟩
theorem mem_nth {α : Type} (z : α) {l : List α} {x : α} (h : x ∈ l) : ∃ k, k < l.length ∧ nth z l k = x := by
  obtain ⟨k, hk, rfl⟩ := List.getElem_of_mem h
  exact ⟨k, hk, by simp [nth, List.getD_eq_getElem?_getD, List.getElem?_eq_getElem hk]⟩
theorem nth_mem {α : Type} (z : α) {l : List α} {k : Nat} (h : k < l.length) : nth z l k ∈ l := by
  simp [nth, List.getD_eq_getElem?_getD, List.getElem?_eq_getElem h]
theorem all_nth {α : Type} (z : α) {l : List α} {p : α → Bool} (h : l.all p = true) : ∀ k, k < l.length → p (nth z l k) = true :=
  fun _ hk => List.all_eq_true.1 h _ (nth_mem z hk)
theorem scopeB_range {n : Nat} {l : List Int} (h : scopeB n l = true) : ∀ k, k < l.length → 0 ≤ nth 0 l k ∧ nth 0 l k < n := by
  simp only [scopeB, Bool.and_eq_true, decide_eq_true_eq] at h
  obtain ⟨⟨⟨⟨h0, _⟩, hr⟩, h1⟩, h2⟩ := h
  intro k hk
  have hb := rising_between hr hk
  exact ⟨by omega, by omega⟩
theorem inDoms_fits {doms : List (List Int)} (hd : ∀ i, i < doms.length → ∀ k, k < (nth [] doms i).length → Fit6 (nth 0 (nth [] doms i) k)) :
    ∀ (s t : List Int), t.length = s.length → (∀ k, k < s.length → 0 ≤ nth 0 s k ∧ nth 0 s k < doms.length) → inDoms doms s t = true → ∀ k, k < t.length → Fit6 (nth 0 t k)
  | [], [], _, _, _, k, hk => by simp at hk
  | a :: s, b :: t, hl, hs, h, k, hk => by
    simp only [inDoms, Bool.and_eq_true, decide_eq_true_eq] at h
    cases k with
    | zero =>
      have h0 := hs 0 (by simp)
      have ha : nth 0 (a :: s) 0 = a := rfl
      rw [ha] at h0
      obtain ⟨q, hq, he⟩ := mem_nth 0 h.1
      have := hd a.toNat (by omega) q hq
      rw [he] at this
      exact this
    | succ k =>
      exact inDoms_fits hd s t (by simpa using hl) (fun j hj => hs (j + 1) (by simp; omega)) h.2 k (by simpa using hk)
theorem rowsB_fits {doms : List (List Int)} {scope : List Int} (hd : ∀ i, i < doms.length → ∀ k, k < (nth [] doms i).length → Fit6 (nth 0 (nth [] doms i) k)) (hs : ∀ k, k < scope.length → 0 ≤ nth 0 scope k ∧ nth 0 scope k < doms.length) :
    ∀ (l : List (List Int)) (p : Option (List Int)), rowsB doms scope p l = true → ∀ i, i < l.length → (nth [] l i).length = scope.length ∧ ∀ k, k < (nth [] l i).length → Fit6 (nth 0 (nth [] l i) k)
  | [], _, _, i, hi => by simp at hi
  | t :: l, p, h, i, hi => by
    simp only [rowsB, Bool.and_eq_true, decide_eq_true_eq] at h
    obtain ⟨⟨⟨h1, _⟩, h2⟩, h3⟩ := h
    cases i with
    | zero => exact ⟨h1, inDoms_fits hd scope t h1 hs h2⟩
    | succ i => exact rowsB_fits hd hs l (some t) h3 i (by simpa using hi)
theorem argsB_fits (n : Nat) : ∀ (l : List Int) (i : Nat), argsB n i l = true → ∀ k, k < l.length → Fit6 (nth 0 l k)
  | [], _, _, k, hk => by simp at hk
  | a :: l, i, h, k, hk => by
    simp only [argsB, Bool.and_eq_true] at h
    cases k with
    | zero => exact small_bounds h.1.2
    | succ k => exact argsB_fits n l (i + 1) h.2 k (by simpa using hk)
/-- What is known of a right instance's parts. -/
theorem right_doms {x : Ins} (h : rightB x = true) : x.doms.length ≤ 40 ∧ ∀ i, i < x.doms.length → domainB (nth [] x.doms i) = true := by
  simp only [rightB, Bool.and_eq_true, decide_eq_true_eq] at h
  exact ⟨h.1.1.1.1.1, all_nth [] h.1.1.2⟩
theorem right_hard {x : Ins} (h : rightB x = true) : x.hard.length ≤ 200 ∧ ∀ i, i < x.hard.length → hardB x (nth default x.hard i) = true := by
  simp only [rightB, Bool.and_eq_true, decide_eq_true_eq] at h
  exact ⟨h.1.1.1.1.2, all_nth default h.1.2⟩
theorem right_soft {x : Ins} (h : rightB x = true) : x.soft.length ≤ 200 ∧ ∀ i, i < x.soft.length → softB x (nth default x.soft i) = true := by
  simp only [rightB, Bool.and_eq_true, decide_eq_true_eq] at h
  exact ⟨h.1.1.1.2, all_nth default h.2⟩
theorem doms_fits {x : Ins} (h : rightB x = true) : ∀ i, i < x.doms.length → ∀ k, k < (nth [] x.doms i).length → Fit6 (nth 0 (nth [] x.doms i) k) :=
  fun i hi => domainB_fits ((right_doms h).2 i hi)
theorem scope_fits {n : Nat} {l : List Int} (hn : n ≤ 40) (h : scopeB n l = true) : Fits l := fun k hk => by
  have := scopeB_range h k hk
  exact ⟨by omega, by omega⟩
theorem wideAny_fits {l : List Int} (h : wideAny l = false) : Fits l := fun k hk => by
  unfold wideAny at h
  rw [List.any_eq_false] at h
  have := h _ (nth_mem 0 hk)
  simp only [Bool.not_eq_true, Bool.not_eq_false'] at this
  exact small_bounds (by simpa using this)
end Go.Proofs.YtoahaigfjfeopaaGreatDoor
