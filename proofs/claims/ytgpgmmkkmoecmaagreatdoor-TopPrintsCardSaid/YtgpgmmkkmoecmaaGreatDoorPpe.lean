/- Texts joined: Wf Pd Wm Wla Rd Ka Kb Kc Kd. -/
import Derived.Test.YtgpgmmkkmoecmaaGreatDoorPpd
import Derived.Test.YtgpgmmkkmoecmaaGreatDoorPpa
import Derived.Lib.SmallJoins
import Derived.Deep.Slices
import Derived.Orders
import Derived.KernelRfl
import Derived.ScopeJumps
import Derived.Below
import Derived.Laws.Entries
import Derived.Laws.Cells
import Derived.ChangeKeysEq
import Derived.Laws.Rows
/- slices.IndexFunc and ContainsFunc over inst.Right's closures; inst.Right. -/
namespace Go.Proofs.YtgpgmmkkmoecmaaGreatDoor
open Go.RowKit

set_option maxRecDepth 100000 in
theorem index1_any (v : Value) (xs : List (List Int)) (ok : Nat → Prop) (w : World) (h1 : Sl kRow w ok v xs) :
    Calls Tryz.prog 49 #[v, .func (.func 21) #[] #[]] w fun e w' => e = .returned (.int .i64 (findFrom (fun d => !domainB d) 0 xs)) ∧ Below w.heap.size w w' := by
  have H1 := h1
  obtain ⟨A, c, rfl, hc, hm, hA⟩ := h1
  clear hA
  go_enter Tryz.func49, Tryz.ntmps49
  go_wp2
  go_loopw [8] (fun i wr => ∃ k : Nat, i = .int .i64 k ∧ k ≤ xs.length ∧ Hid (findFrom (fun d => !domainB d) 0 xs = findFrom (fun d => !domainB d) k (xs.drop k)) ∧ Hid (Below w.heap.size w wr)) (fun i _ => xs.length - (intOf i).toNat)
  case atStart => exact ⟨0, rfl, by omega, Lib.hid rfl, Lib.hid (Below.refl _ _)⟩
  case round =>
    obtain ⟨k, rfl, hk, H, HB⟩ := hrel
    by_cases hlt : k < xs.length
    · obtain ⟨b, o, vt, rfl, c1, ht⟩ := (Sl.elems (H1.below (by decide) HB.out)).row hlt
      have H' := Lib.hid (findFrom_drop (fun d => !domainB d) [] xs k hlt)
      clear H1
      cases hs : domainB (nth [] xs k)
      · go_wp2_with (go_at_call 21; refine (right1_any _ _ _ _ ht).mono ?_; rintro e w' ⟨rfl, hb⟩; have hb' := Lib.hid hb; clear hb)
        go_ret
        exact ⟨ret_int (by rw [H.out, H'.out, hs]; simp), below_next HB.out hb'.out⟩
      · go_wp2_with (go_at_call 21; refine (right1_any _ _ _ _ ht).mono ?_; rintro e w' ⟨rfl, hb⟩; have hb' := Lib.hid hb; clear hb)
        go_roundw
        case rel => exact ⟨k + 1, by go_num, by omega, Lib.hid (by rw [H.out, H'.out, hs]; simp), Lib.hid (below_next HB.out hb'.out)⟩
        case measure => simp [intOf]; omega
    · go_wp2
      go_ret
      refine ⟨ret_int ?_, HB.out⟩
      rw [H.out, List.drop_eq_nil_of_le (by omega)]; rfl
theorem contains1_any (v : Value) (xs : List (List Int)) (ok : Nat → Prop) (w : World) (h1 : Sl kRow w ok v xs) :
    Calls Tryz.prog 20 #[v, .func (.func 21) #[] #[]] w fun e w' => e = .returned (.bool (xs.any (fun d => !domainB d))) ∧ Below w.heap.size w w' := by
  have hx := Lib.hid (findFrom_ge (fun d => !domainB d) xs 0)
  go_enter Tryz.func20, Tryz.ntmps20
  go_wp2_with (go_at_call 49; refine (index1_any _ _ _ _ h1).mono ?_; rintro e w' ⟨rfl, hb⟩; have hb' := Lib.hid hb; clear hb)
  go_ret
  exact ⟨ret_bool hx.out, hb'.out⟩

set_option maxRecDepth 100000 in
theorem index2_any (vD vH vS v : Value) (x : Ins) (xs : List Con) (ok : Nat → Prop) (w : World) (hD : Sl kRow w ok vD x.doms) (h1 : Sl kCon w ok v xs) (g : Nat) (hg : w.heap[g]? = some (.cells #[vD, vH, vS] 30 (0, 0))) :
    Calls Tryz.prog 52 #[v, .func (.func 24) #[] #[.pointer (some ⟨g, 0, none⟩)]] w fun e w' => e = .returned (.int .i64 (findFrom (fun c => !hardB x c) 0 xs)) ∧ Below w.heap.size w w' := by
  have H1 := h1
  have HD := hD
  have HG := Lib.hid hg
  obtain ⟨A, c, rfl, hc, hm, hA⟩ := h1
  clear hA hD hg
  go_enter Tryz.func52, Tryz.ntmps52
  go_wp2
  go_loopw [8] (fun i wr => ∃ k : Nat, i = .int .i64 k ∧ k ≤ xs.length ∧ Hid (findFrom (fun c => !hardB x c) 0 xs = findFrom (fun c => !hardB x c) k (xs.drop k)) ∧ Hid (Below w.heap.size w wr)) (fun i _ => xs.length - (intOf i).toNat)
  case atStart => exact ⟨0, rfl, by omega, Lib.hid rfl, Lib.hid (Below.refl _ _)⟩
  case round =>
    obtain ⟨k, rfl, hk, H, HB⟩ := hrel
    by_cases hlt : k < xs.length
    · obtain ⟨b, o, cs, rfl, _, hK, hcell⟩ := (Sl.elems (H1.below (by decide) HB.out)) k (nth default xs k) (nth_get default xs k hlt)
      obtain ⟨vs, vr, va, rfl, e1, e2, e3⟩ := kCon_cells hK
      have f0 := hcell 0 _ rfl
      have f1 := hcell 1 _ rfl
      have f2 := hcell 2 _ rfl
      have f3 := hcell 3 _ rfl
      simp only [show kCon.sz = 4 from rfl, Nat.add_zero, ← Nat.add_assoc] at f0 f1 f2 f3
      clear hcell hK
      have H' := Lib.hid (findFrom_drop (fun c => !hardB x c) default xs k hlt)
      have HD' := HD.below (by decide) HB.out
      have HG' := Lib.hid (block_kept HB.out HG.out)
      clear H1 HD HG
      cases hs : hardB x (nth default xs k)
      · go_wp2_with (go_at_call 24; refine (right2_any _ vH vS _ _ _ x _ ok _ HD' e1 e2 e3 g HG'.out).mono ?_; rintro e w' ⟨rfl, hb⟩; have hb' := Lib.hid hb; clear hb)
        go_ret
        exact ⟨ret_int (by rw [H.out, H'.out, hs]; simp), below_next HB.out hb'.out⟩
      · go_wp2_with (go_at_call 24; refine (right2_any _ vH vS _ _ _ x _ ok _ HD' e1 e2 e3 g HG'.out).mono ?_; rintro e w' ⟨rfl, hb⟩; have hb' := Lib.hid hb; clear hb)
        go_roundw
        case rel => exact ⟨k + 1, by go_num, by omega, Lib.hid (by rw [H.out, H'.out, hs]; simp), Lib.hid (below_next HB.out hb'.out)⟩
        case measure => simp [intOf]; omega
    · go_wp2
      go_ret
      refine ⟨ret_int ?_, HB.out⟩
      rw [H.out, List.drop_eq_nil_of_le (by omega)]; rfl
theorem contains2_any (vD vH vS v : Value) (x : Ins) (xs : List Con) (ok : Nat → Prop) (w : World) (hD : Sl kRow w ok vD x.doms) (h1 : Sl kCon w ok v xs) (g : Nat) (hg : w.heap[g]? = some (.cells #[vD, vH, vS] 30 (0, 0))) :
    Calls Tryz.prog 23 #[v, .func (.func 24) #[] #[.pointer (some ⟨g, 0, none⟩)]] w fun e w' => e = .returned (.bool (xs.any (fun c => !hardB x c))) ∧ Below w.heap.size w w' := by
  have hx := Lib.hid (findFrom_ge (fun c => !hardB x c) xs 0)
  have hc := Lib.hid (index2_any vD vH vS v x xs ok w hD h1 g hg)
  clear hD h1 hg
  go_enter Tryz.func23, Tryz.ntmps23
  go_wp2_with (go_at_call 52; refine hc.out.mono ?_; rintro e w' ⟨rfl, hb⟩; have hb' := Lib.hid hb; clear hb)
  go_ret
  exact ⟨ret_bool hx.out, hb'.out⟩

set_option maxRecDepth 100000 in
theorem index3_any (vD vH vS v : Value) (x : Ins) (xs : List Sft) (ok : Nat → Prop) (w : World) (hD : Sl kRow w ok vD x.doms) (h1 : Sl kSft w ok v xs) (g : Nat) (hg : w.heap[g]? = some (.cells #[vD, vH, vS] 30 (0, 0))) :
    Calls Tryz.prog 56 #[v, .func (.func 27) #[] #[.pointer (some ⟨g, 0, none⟩)]] w fun e w' => e = .returned (.int .i64 (findFrom (fun c => !softB x c) 0 xs)) ∧ Below w.heap.size w w' := by
  have H1 := h1
  have HD := hD
  have HG := Lib.hid hg
  obtain ⟨A, c, rfl, hc, hm, hA⟩ := h1
  clear hA hD hg
  go_enter Tryz.func56, Tryz.ntmps56
  go_wp2
  go_loopw [8] (fun i wr => ∃ k : Nat, i = .int .i64 k ∧ k ≤ xs.length ∧ Hid (findFrom (fun c => !softB x c) 0 xs = findFrom (fun c => !softB x c) k (xs.drop k)) ∧ Hid (Below w.heap.size w wr)) (fun i _ => xs.length - (intOf i).toNat)
  case atStart => exact ⟨0, rfl, by omega, Lib.hid rfl, Lib.hid (Below.refl _ _)⟩
  case round =>
    obtain ⟨k, rfl, hk, H, HB⟩ := hrel
    by_cases hlt : k < xs.length
    · obtain ⟨b, o, cs, rfl, _, hK, hcell⟩ := (Sl.elems (H1.below (by decide) HB.out)) k (nth default xs k) (nth_get default xs k hlt)
      obtain ⟨vs, vr, vc, rfl, e1, e2, e3⟩ := kSft_cells hK
      have f0 := hcell 0 _ rfl
      have f1 := hcell 1 _ rfl
      have f2 := hcell 2 _ rfl
      have f3 := hcell 3 _ rfl
      simp only [show kSft.sz = 4 from rfl, Nat.add_zero, ← Nat.add_assoc] at f0 f1 f2 f3
      clear hcell hK
      have H' := Lib.hid (findFrom_drop (fun c => !softB x c) default xs k hlt)
      have HD' := HD.below (by decide) HB.out
      have HG' := Lib.hid (block_kept HB.out HG.out)
      clear H1 HD HG
      cases hs : softB x (nth default xs k)
      · go_wp2_with (go_at_call 27; refine (right3_any _ vH vS _ _ _ x _ ok _ HD' e1 e2 e3 g HG'.out).mono ?_; rintro e w' ⟨rfl, hb⟩; have hb' := Lib.hid hb; clear hb)
        go_ret
        exact ⟨ret_int (by rw [H.out, H'.out, hs]; simp), below_next HB.out hb'.out⟩
      · go_wp2_with (go_at_call 27; refine (right3_any _ vH vS _ _ _ x _ ok _ HD' e1 e2 e3 g HG'.out).mono ?_; rintro e w' ⟨rfl, hb⟩; have hb' := Lib.hid hb; clear hb)
        go_roundw
        case rel => exact ⟨k + 1, by go_num, by omega, Lib.hid (by rw [H.out, H'.out, hs]; simp), Lib.hid (below_next HB.out hb'.out)⟩
        case measure => simp [intOf]; omega
    · go_wp2
      go_ret
      refine ⟨ret_int ?_, HB.out⟩
      rw [H.out, List.drop_eq_nil_of_le (by omega)]; rfl
theorem contains3_any (vD vH vS v : Value) (x : Ins) (xs : List Sft) (ok : Nat → Prop) (w : World) (hD : Sl kRow w ok vD x.doms) (h1 : Sl kSft w ok v xs) (g : Nat) (hg : w.heap[g]? = some (.cells #[vD, vH, vS] 30 (0, 0))) :
    Calls Tryz.prog 26 #[v, .func (.func 27) #[] #[.pointer (some ⟨g, 0, none⟩)]] w fun e w' => e = .returned (.bool (xs.any (fun c => !softB x c))) ∧ Below w.heap.size w w' := by
  have hx := Lib.hid (findFrom_ge (fun c => !softB x c) xs 0)
  have hc := Lib.hid (index3_any vD vH vS v x xs ok w hD h1 g hg)
  clear hD h1 hg
  go_enter Tryz.func26, Tryz.ntmps26
  go_wp2_with (go_at_call 56; refine hc.out.mono ?_; rintro e w' ⟨rfl, hb⟩; have hb' := Lib.hid hb; clear hb)
  go_ret
  exact ⟨ret_bool hx.out, hb'.out⟩

set_option maxRecDepth 100000 in
theorem right_any (vD vH vS : Value) (x : Ins) (ok : Nat → Prop) (w : World) (hD : Sl kRow w ok vD x.doms) (hH : Sl kCon w ok vH x.hard) (hS : Sl kSft w ok vS x.soft) :
    Calls Tryz.prog 8 #[.agg #[vD, vH, vS]] w fun e w' => e = .returned (.bool (rightB x)) ∧ Below w.heap.size w w' := by
  obtain ⟨AD, cD, rfl, hcD, hmD, hAD⟩ := hD
  obtain ⟨AH, cH, rfl, hcH, hmH, hAH⟩ := hH
  obtain ⟨AS, cS, rfl, hcS, hmS, hAS⟩ := hS
  have HB := Lib.hid (below_alloc1 w (.cells #[.slice AD x.doms.length cD, .slice AH x.hard.length cH, .slice AS x.soft.length cS] 30))
  have HD := Sl.below (v := .slice AD x.doms.length cD) (xs := x.doms) (by decide) ⟨AD, cD, rfl, hcD, hmD, hAD⟩ HB.out
  have HH := Sl.below (v := .slice AH x.hard.length cH) (xs := x.hard) (by decide) ⟨AH, cH, rfl, hcH, hmH, hAH⟩ HB.out
  have HS := Sl.below (v := .slice AS x.soft.length cS) (xs := x.soft) (by decide) ⟨AS, cS, rfl, hcS, hmS, hAS⟩ HB.out
  have hg : (w.alloc (.cells #[.slice AD x.doms.length cD, .slice AH x.hard.length cH, .slice AS x.soft.length cS] 30)).heap[w.heap.size]? = some (.cells #[.slice AD x.doms.length cD, .slice AH x.hard.length cH, .slice AS x.soft.length cS] 30 (0, 0)) := heap_alloc_new w _
  have HG := Lib.hid hg
  clear hg hAD hAH hAS
  obtain ⟨q1, hq1⟩ : ∃ q, (x.doms.any fun d => !domainB d) = q := ⟨_, rfl⟩
  obtain ⟨q2, hq2⟩ : ∃ q, (x.hard.any fun c => !hardB x c) = q := ⟨_, rfl⟩
  obtain ⟨q3, hq3⟩ : ∃ q, (x.soft.any fun c => !softB x c) = q := ⟨_, rfl⟩
  have hr : Hid (rightB x = (decide (x.doms.length ≤ 40) && decide (x.hard.length ≤ 200) && decide (x.soft.length ≤ 200) && !q1 && !q2 && !q3)) := by
    apply Lib.hid
    unfold rightB
    rw [List.all_eq_not_any_not, List.all_eq_not_any_not, List.all_eq_not_any_not, hq1, hq2, hq3]
  have hc1 := Lib.hid (contains1_any _ _ ok _ HD)
  rw [hq1] at hc1
  have hc2 := fun W (hb : Below _ _ W) => contains2_any _ _ _ _ x x.hard ok W (HD.below (by decide) hb) (HH.below (by decide) hb) _ (block_kept hb HG.out)
  have hc3 := fun W (hb : Below _ _ W) => contains3_any _ _ _ _ x x.soft ok W (HD.below (by decide) hb) (HS.below (by decide) hb) _ (block_kept hb HG.out)
  rw [hq2] at hc2
  rw [hq3] at hc3
  have Hc2 := Lib.hid hc2
  have Hc3 := Lib.hid hc3
  clear hc2 hc3 hq1 hq2 hq3 HD HH HS
  go_enter Tryz.func8, Tryz.ntmps8
  go_wp2_with (first
    | (go_at_call 20; refine hc1.out.mono ?_; rintro e w' ⟨rfl, hb⟩; (obtain ⟨hc, hb1⟩ : (∀ b o, _ → _) ∧ Hid _ := ⟨bcell hb, Lib.hid hb⟩); clear hb)
    | (go_at_call 23; refine (Hc2.out _ hb1.out).mono ?_; rintro e w' ⟨rfl, hb⟩; (obtain ⟨hc', hb2⟩ : (∀ b o, _ → _) ∧ Hid _ := ⟨bcell (below_next hb1.out hb), Lib.hid (below_next hb1.out hb)⟩); clear hb hc hb1)
    | (go_at_call 26; refine (Hc3.out _ hb2.out).mono ?_; rintro e w' ⟨rfl, hb⟩; (obtain ⟨hc, hb1⟩ : (∀ b o, _ → _) ∧ Hid _ := ⟨bcell (below_next hb2.out hb), Lib.hid (below_next hb2.out hb)⟩); clear hb hc' hb2))
  all_goals go_ret
  all_goals refine ⟨ret_bool ?_, by first | exact below_next HB.out hb1.out | exact below_next HB.out hb2.out | exact HB.out⟩
  all_goals rw [hr.out]
  all_goals try (simp [*]; done)
  all_goals by_cases e1 : x.doms.length ≤ 40
  all_goals by_cases e2 : x.hard.length ≤ 200
  all_goals by_cases e3 : x.soft.length ≤ 200
  all_goals try (exfalso; omega)
  all_goals try (simp [*]; done)
  all_goals go_ways
end Go.Proofs.YtgpgmmkkmoecmaaGreatDoor

/- Plain laws: the numbers of a right instance fit. -/
namespace Go.Proofs.YtgpgmmkkmoecmaaGreatDoor

theorem rising_step {l : List Int} (hr : risingB l = true) : ∀ k, k + 1 < l.length → nth 0 l k < nth 0 l (k + 1) := by
  intro k hk
  have : risingB (l.drop k) = true := by
    induction k with
    | zero => exact hr
    | succ k ih =>
      have := ih (by omega)
      rw [risingB_drop l k (by omega)] at this
      simp only [Bool.and_eq_true] at this
      exact this.2
  rw [risingB_drop l k hk] at this
  simp only [Bool.and_eq_true, decide_eq_true_eq] at this
  exact this.1
theorem rising_mono {l : List Int} (hr : risingB l = true) : ∀ (j k : Nat), j + k < l.length → nth 0 l k ≤ nth 0 l (j + k) := by
  intro j
  induction j with
  | zero => intro k _; simp
  | succ j ih =>
    intro k hk
    have a := ih k (by omega)
    have b := rising_step hr (j + k) (by omega)
    rw [show j + 1 + k = j + k + 1 from by omega]
    omega
theorem rising_between {l : List Int} (hr : risingB l = true) {k : Nat} (hk : k < l.length) : nth 0 l 0 ≤ nth 0 l k ∧ nth 0 l k ≤ nth 0 l (l.length - 1) := by
  have a := rising_mono hr k 0 (by omega)
  have b := rising_mono hr (l.length - 1 - k) k (by omega)
  rw [show l.length - 1 - k + k = l.length - 1 from by omega] at b
  exact ⟨a, b⟩
theorem small_bounds {n m : Int} (h : smallB n m = true) : -m ≤ n ∧ n ≤ m := by
  simpa [smallB] using h
def Fit6 (n : Int) : Prop := -1000000 ≤ n ∧ n ≤ 1000000
theorem Fit6.fit {n : Int} (h : Fit6 n) : Fit n := ⟨by have := h.1; omega, by have := h.2; omega⟩
theorem domainB_fits {d : List Int} (h : domainB d = true) : ∀ k, k < d.length → Fit6 (nth 0 d k) := by
  simp only [domainB, Bool.and_eq_true, decide_eq_true_eq] at h
  obtain ⟨⟨⟨⟨_, _⟩, hr⟩, h1⟩, h2⟩ := h
  intro k hk
  have hb := rising_between hr hk
  have a := small_bounds h1
  have b := small_bounds h2
  exact ⟨by omega, by omega⟩
theorem mem_nth {α : Type} (z : α) {l : List α} {x : α} (h : x ∈ l) : ∃ k, k < l.length ∧ nth z l k = x := by
  obtain ⟨k, hk, rfl⟩ := List.getElem_of_mem h
  exact ⟨k, hk, by simp [nth, List.getD_eq_getElem?_getD, List.getElem?_eq_getElem hk]⟩
theorem nth_mem {α : Type} (z : α) {l : List α} {k : Nat} (h : k < l.length) : nth z l k ∈ l := by
  simp [nth, List.getD_eq_getElem?_getD, List.getElem?_eq_getElem h]
theorem all_nth {α : Type} (z : α) {l : List α} {p : α → Bool} (h : l.all p = true) : ∀ k, k < l.length → p (nth z l k) = true :=
  fun _ hk => List.all_eq_true.1 h _ (nth_mem z hk)
theorem scopeB_range {n : Nat} {l : List Int} (h : scopeB n l = true) : ∀ k, k < l.length → 0 ≤ nth 0 l k ∧ nth 0 l k < n := by
  simp only [scopeB, Bool.and_eq_true, decide_eq_true_eq] at h
  obtain ⟨⟨⟨⟨h0, _⟩, hr⟩, h1⟩, h2⟩ := h
  intro k hk
  have hb := rising_between hr hk
  exact ⟨by omega, by omega⟩
theorem inDoms_fits {doms : List (List Int)} (hd : ∀ i, i < doms.length → ∀ k, k < (nth [] doms i).length → Fit6 (nth 0 (nth [] doms i) k)) :
    ∀ (s t : List Int), t.length = s.length → (∀ k, k < s.length → 0 ≤ nth 0 s k ∧ nth 0 s k < doms.length) → inDoms doms s t = true → ∀ k, k < t.length → Fit6 (nth 0 t k)
  | [], [], _, _, _, k, hk => by simp at hk
  | a :: s, b :: t, hl, hs, h, k, hk => by
    simp only [inDoms, Bool.and_eq_true, decide_eq_true_eq] at h
    cases k with
    | zero =>
      have h0 := hs 0 (by simp)
      have ha : nth 0 (a :: s) 0 = a := rfl
      rw [ha] at h0
      obtain ⟨q, hq, he⟩ := mem_nth 0 h.1
      have := hd a.toNat (by omega) q hq
      rw [he] at this
      exact this
    | succ k =>
      exact inDoms_fits hd s t (by simpa using hl) (fun j hj => hs (j + 1) (by simp; omega)) h.2 k (by simpa using hk)
theorem rowsB_fits {doms : List (List Int)} {scope : List Int} (hd : ∀ i, i < doms.length → ∀ k, k < (nth [] doms i).length → Fit6 (nth 0 (nth [] doms i) k)) (hs : ∀ k, k < scope.length → 0 ≤ nth 0 scope k ∧ nth 0 scope k < doms.length) :
    ∀ (l : List (List Int)) (p : Option (List Int)), rowsB doms scope p l = true → ∀ i, i < l.length → (nth [] l i).length = scope.length ∧ ∀ k, k < (nth [] l i).length → Fit6 (nth 0 (nth [] l i) k)
  | [], _, _, i, hi => by simp at hi
  | t :: l, p, h, i, hi => by
    simp only [rowsB, Bool.and_eq_true, decide_eq_true_eq] at h
    obtain ⟨⟨⟨h1, _⟩, h2⟩, h3⟩ := h
    cases i with
    | zero => exact ⟨h1, inDoms_fits hd scope t h1 hs h2⟩
    | succ i => exact rowsB_fits hd hs l (some t) h3 i (by simpa using hi)
theorem argsB_fits (n : Nat) : ∀ (l : List Int) (i : Nat), argsB n i l = true → ∀ k, k < l.length → Fit6 (nth 0 l k)
  | [], _, _, k, hk => by simp at hk
  | a :: l, i, h, k, hk => by
    simp only [argsB, Bool.and_eq_true] at h
    cases k with
    | zero => exact small_bounds h.1.2
    | succ k => exact argsB_fits n l (i + 1) h.2 k (by simpa using hk)
/-- What is known of a right instance's parts. -/
theorem right_doms {x : Ins} (h : rightB x = true) : x.doms.length ≤ 40 ∧ ∀ i, i < x.doms.length → domainB (nth [] x.doms i) = true := by
  simp only [rightB, Bool.and_eq_true, decide_eq_true_eq] at h
  exact ⟨h.1.1.1.1.1, all_nth [] h.1.1.2⟩
theorem right_hard {x : Ins} (h : rightB x = true) : x.hard.length ≤ 200 ∧ ∀ i, i < x.hard.length → hardB x (nth default x.hard i) = true := by
  simp only [rightB, Bool.and_eq_true, decide_eq_true_eq] at h
  exact ⟨h.1.1.1.1.2, all_nth default h.1.2⟩
theorem right_soft {x : Ins} (h : rightB x = true) : x.soft.length ≤ 200 ∧ ∀ i, i < x.soft.length → softB x (nth default x.soft i) = true := by
  simp only [rightB, Bool.and_eq_true, decide_eq_true_eq] at h
  exact ⟨h.1.1.1.2, all_nth default h.2⟩
theorem doms_fits {x : Ins} (h : rightB x = true) : ∀ i, i < x.doms.length → ∀ k, k < (nth [] x.doms i).length → Fit6 (nth 0 (nth [] x.doms i) k) :=
  fun i hi => domainB_fits ((right_doms h).2 i hi)
theorem scope_fits {n : Nat} {l : List Int} (hn : n ≤ 40) (h : scopeB n l = true) : Fits l := fun k hk => by
  have := scopeB_range h k hk
  exact ⟨by omega, by omega⟩
theorem wideAny_fits {l : List Int} (h : wideAny l = false) : Fits l := fun k hk => by
  unfold wideAny at h
  rw [List.any_eq_false] at h
  have := h _ (nth_mem 0 hk)
  simp only [Bool.not_eq_true, Bool.not_eq_false'] at this
  exact small_bounds (by simpa using this)
end Go.Proofs.YtgpgmmkkmoecmaaGreatDoor

/- inst.Print. -/
namespace Go.Proofs.YtgpgmmkkmoecmaaGreatDoor
open Go.RowKit

theorem hardw_any (b : Nat) (l : List UInt8) (vs vr va : Value) (x : Ins) (c : Con) (ok : Nat → Prop) (w : World) (hB : Bld b l w) (hE : Env w) (hb8 : 8 ≤ b) (hS : Stays b w ok) (h1 : Sl (Kd.int .i64) w ok vs c.scope) (h2 : Sl kRow w ok vr c.rows) (h3 : Sl (Kd.int .i64) w ok va c.args)
    (hx : rightB x = true) (hc : hardB x c = true) (hlen : l.length + (hardP c).length ≤ 140737488355328) :
    Calls Tryz.prog 31 #[.pointer (some ⟨b, 0, none⟩), .agg #[.int .i64 c.kind, vs, vr, va]] w fun e w' => e = .returned (.tuple #[]) ∧ Bld b (l ++ hardP c) w' ∧ Kep b w w' := by
  simp only [hardB, Bool.and_eq_true, decide_eq_true_eq] at hc
  obtain ⟨⟨⟨⟨hs, hk1⟩, hk6⟩, hk2⟩, hr⟩ := hc
  have hf := scope_fits (right_doms hx).1 hs
  by_cases h6 : c.kind = 6
  · rw [if_pos h6] at hr
    simp only [linearB, Bool.and_eq_true, decide_eq_true_eq] at hr
    obtain ⟨⟨⟨ha, hh0⟩, hh2⟩, hb⟩ := hr
    exact hard_linear b l vs vr va c ok w hB hE hb8 hS h1 h6 h3 ha hh0 hh2 hf (fun k hk => (argsB_fits _ _ _ hb k hk).fit) hlen
  · rw [if_neg h6] at hr
    simp only [Bool.and_eq_true, decide_eq_true_eq] at hr
    by_cases h3' : 2 < c.kind
    · exact hard_plain b l vs vr va c ok w hB hE hb8 hS h1 h3' (by omega) hf hlen
    · have h2c := h2
      obtain ⟨_, _, _, _, hm, _⟩ := h2c
      exact hard_table b l vs vr va c ok w hB hE hb8 hS h1 hk1 (by omega) h2 hf (fun k hk => fun j hj => (rowsB_fits (doms_fits hx) (scopeB_range hs) c.rows none hr.2 k hk).2 j hj |>.fit) hm hlen
theorem softx_any (b : Nat) (l : List UInt8) (vs vr vc : Value) (x : Ins) (s : Sft) (ok : Nat → Prop) (w : World) (hB : Bld b l w) (hE : Env w) (hb8 : 8 ≤ b) (hS : Stays b w ok) (h1 : Sl (Kd.int .i64) w ok vs s.scope) (h2 : Sl kRow w ok vr s.rows) (h3 : Sl (Kd.int .i64) w ok vc s.costs)
    (hx : rightB x = true) (hc : softB x s = true) (hlen : l.length + (softP s).length ≤ 140737488355328) :
    Calls Tryz.prog 32 #[.pointer (some ⟨b, 0, none⟩), .agg #[vs, vr, vc, .int .i64 s.dflt]] w fun e w' => e = .returned (.tuple #[]) ∧ Bld b (l ++ softP s) w' ∧ Kep b w w' := by
  simp only [softB, Bool.and_eq_true, decide_eq_true_eq] at hc
  obtain ⟨⟨⟨⟨hs, hl⟩, hd⟩, hw⟩, hr⟩ := hc
  exact softw_any b l vs vr vc s ok w hB hE hb8 hS h1 h2 h3 hl.symm (scope_fits (right_doms hx).1 hs) (fun k hk => fun j hj => (rowsB_fits (doms_fits hx) (scopeB_range hs) s.rows none hr k hk).2 j hj |>.fit) (wideAny_fits (by simpa using hw)) (small_bounds hd) hlen
theorem flat_step {α : Type} (f : α → List UInt8) (z : α) (l : List α) (k : Nat) (h : k < l.length) : (l.take (k + 1)).flatMap f = (l.take k).flatMap f ++ f (nth z l k) := by
  rw [take_snoc z l k h]; simp
theorem flat_take_le {α : Type} (f : α → List UInt8) (l : List α) (k : Nat) : ((l.take k).flatMap f).length ≤ (l.flatMap f).length := by
  have : l.flatMap f = (l.take k).flatMap f ++ (l.drop k).flatMap f := by rw [← List.flatMap_append, List.take_append_drop]
  rw [this, List.length_append]; omega

set_option maxRecDepth 100000 in
set_option maxHeartbeats 1000000 in
theorem print_wrong (vD vH vS : Value) (x : Ins) (ok : Nat → Prop) (w : World) (hD : Sl kRow w ok vD x.doms) (hH : Sl kCon w ok vH x.hard) (hS : Sl kSft w ok vS x.soft) (hr : rightB x = false) :
    Calls Tryz.prog 9 #[.agg #[vD, vH, vS]] w fun e w' => e = .returned (.string ⟨(printP x).toArray⟩) ∧ Below w.heap.size w w' := by
  have hP : printP x = [] := by unfold printP; rw [hr]; rfl
  obtain ⟨AD, cD, rfl, hcD, hmD, hAD⟩ := hD
  obtain ⟨AH, cH, rfl, hcH, hmH, hAH⟩ := hH
  obtain ⟨AS, cS, rfl, hcS, hmS, hAS⟩ := hS
  have HB := Lib.hid (below_alloc1 w (.cells #[.slice AD x.doms.length cD, .slice AH x.hard.length cH, .slice AS x.soft.length cS] 30))
  have HR := Lib.hid (right_any _ _ _ x ok _ (Sl.below (v := .slice AD x.doms.length cD) (xs := x.doms) (by decide) ⟨AD, cD, rfl, hcD, hmD, hAD⟩ HB.out) (Sl.below (v := .slice AH x.hard.length cH) (xs := x.hard) (by decide) ⟨AH, cH, rfl, hcH, hmH, hAH⟩ HB.out) (Sl.below (v := .slice AS x.soft.length cS) (xs := x.soft) (by decide) ⟨AS, cS, rfl, hcS, hmS, hAS⟩ HB.out))
  have HP := Lib.hid hP
  have Hr := Lib.hid hr
  clear hP hr hAD hAH hAS
  go_enter Tryz.func9, Tryz.ntmps9
  go_wp2_with (go_at_call 8; refine HR.out.mono ?_; rintro e w' ⟨rfl, hb⟩; rw [Hr.out]; have hb' := Lib.hid hb; clear hb)
  go_ret
  exact ⟨ret_str (by rw [HP.out]), below_next HB.out hb'.out⟩

set_option maxRecDepth 100000 in
set_option maxHeartbeats 2000000 in
theorem print_right (vD vH vS : Value) (x : Ins) (ok : Nat → Prop) (w : World) (hE : Env w) (hD : Sl kRow w ok vD x.doms) (hH : Sl kCon w ok vH x.hard) (hS : Sl kSft w ok vS x.soft) (hr : rightB x = true) (hlen : (printP x).length ≤ 140737488355328) :
    Calls Tryz.prog 9 #[.agg #[vD, vH, vS]] w fun e w' => e = .returned (.string ⟨(printP x).toArray⟩) ∧ Below w.heap.size w w' := by
  have hP : printP x = domsP x.doms ++ (hardsP x.hard ++ softsP x.soft) := by unfold printP; rw [if_pos hr, List.append_assoc]
  obtain ⟨AD, cD, rfl, hcD, hmD, hAD⟩ := hD
  obtain ⟨AH, cH, rfl, hcH, hmH, hAH⟩ := hH
  obtain ⟨AS, cS, rfl, hcS, hmS, hAS⟩ := hS
  have hl : (domsP x.doms).length + (hardsP x.hard).length + (softsP x.soft).length ≤ 140737488355328 := by rw [hP, List.length_append, List.length_append] at hlen; omega
  have HB := Lib.hid (below_alloc1 w (.cells #[.slice AD x.doms.length cD, .slice AH x.hard.length cH, .slice AS x.soft.length cS] 30))
  have HD0 := Sl.move (v := .slice AD x.doms.length cD) (xs := x.doms) (by decide) (fun k _ hk => HB.out.block k hk) ⟨AD, cD, rfl, hcD, hmD, hAD⟩
  have HH0 := Sl.move (v := .slice AH x.hard.length cH) (xs := x.hard) (by decide) (fun k _ hk => HB.out.block k hk) ⟨AH, cH, rfl, hcH, hmH, hAH⟩
  have HS0 := Sl.move (v := .slice AS x.soft.length cS) (xs := x.soft) (by decide) (fun k _ hk => HB.out.block k hk) ⟨AS, cS, rfl, hcS, hmS, hAS⟩
  have HR := Lib.hid (right_any _ _ _ x _ _ HD0 HH0 HS0)
  have HG := Lib.hid (heap_alloc_new w (.cells #[.slice AD x.doms.length cD, .slice AH x.hard.length cH, .slice AS x.soft.length cS] 30))
  have HE := Lib.hid (hE.below HB.out hE.size)
  have HP := Lib.hid hP
  have Hr := Lib.hid hr
  have Hd := Lib.hid (doms_fits hr)
  clear hP hr hAD hAH hAS hE hlen
  go_enter Tryz.func9, Tryz.ntmps9
  go_wp2_with fail
  refine HR.out.mono ?_
  rintro e W1 ⟨rfl, hb⟩
  rw [Hr.out]
  have hb2 := below_alloc1 W1 (.cells #[.pointer none, .slice none 0 0] 65)
  have Hb2 := Lib.hid (below_next hb hb2)
  have g0 := cell_kept hb2 (cell_at (block_kept hb HG.out) (i := 0) rfl)
  have g1 := cell_kept hb2 (cell_at (block_kept hb HG.out) (i := 1) rfl)
  have g2 := cell_kept hb2 (cell_at (block_kept hb HG.out) (i := 2) rfl)
  have Hblk := Lib.hid (block_kept hb2 (block_kept hb HG.out))
  have hsz := hb.size
  have hsz0 : w.heap.size < (w.alloc (.cells #[.slice AD x.doms.length cD, .slice AH x.hard.length cH, .slice AS x.soft.length cS] 30)).heap.size := by simp
  have HB0 : Hid (Bld W1.heap.size [] (W1.alloc (.cells #[.pointer none, .slice none 0 0] 65))) := Lib.hid ⟨_, _, .inl rfl, heap_alloc_new W1 _, World.ownsRow_nil _ _ _ _, by simp [Value.ownBlock], fun _ => rfl⟩
  have HE1 := Lib.hid (HE.out.below (below_next hb hb2) HE.out.size)
  have hb8 : 8 ≤ W1.heap.size := Nat.le_trans HE.out.size hb.size
  have Hst : Hid (Stays W1.heap.size (W1.alloc (.cells #[.pointer none, .slice none 0 0] 65)) (fun k => ok k ∧ k < w.heap.size)) := Lib.hid fun k hk => .inl (by have := hk.2; omega)
  have HD1 := Lib.hid (Sl.below (by decide) HD0 Hb2.out)
  have HH1 := Lib.hid (Sl.below (by decide) HH0 Hb2.out)
  have HS1 := Lib.hid (Sl.below (by decide) HS0 Hb2.out)
  have Hgw : Hid (w.heap.size < W1.heap.size) := Lib.hid (by omega)
  clear hb hb2 HD0 HH0 HS0 HR HG HE
  have Hvl : Hid (varT.length = 3) := Lib.hid rfl
  have Hel : Hid (endT.length = 2) := Lib.hid rfl
  have Hg : Hid ((W1.alloc (.cells #[.pointer none, .slice none 0 0] 65)).heap[w.heap.size]? = some (.cells #[.slice AD x.doms.length cD, .slice AH x.hard.length cH, .slice AS x.soft.length cS] 30 (0, 0))) := Lib.hid Hblk.out
  go_wp2
  go_loopw [16] (fun i wr => ∃ k : Nat, i = .int .i64 k ∧ k ≤ x.doms.length ∧ Hid (Bld W1.heap.size (domsP (x.doms.take k)) wr) ∧ Hid (Kep W1.heap.size (W1.alloc (.cells #[.pointer none, .slice none 0 0] 65)) wr)) (fun i _ => x.doms.length - (intOf i).toNat)
  case atStart => exact ⟨0, rfl, by omega, HB0, Lib.hid (Kep.refl _ _)⟩
  case round =>
    obtain ⟨k, rfl, hk, HBk, HKk⟩ := hrel
    clear g0 g1 g2
    by_cases hlt : k < x.doms.length
    · obtain ⟨b1, o1, vt, rfl, e1, ht⟩ := (Sl.elems (Hst.out.sl (by decide) HD1.out HKk.out)).row hlt
      have HT := Lib.hid ht
      have hst := flat_step (fun d => varT ++ numsP d ++ endT) [] x.doms k hlt
      have hle : (domsP (x.doms.take (k + 1))).length ≤ (domsP x.doms).length := flat_take_le _ x.doms (k + 1)
      have hst' : domsP (x.doms.take (k + 1)) = domsP (x.doms.take k) ++ (varT ++ numsP (nth [] x.doms k) ++ endT) := hst
      have hb3 : (domsP (x.doms.take k)).length + 3 + (numsP (nth [] x.doms k)).length + 2 ≤ (domsP x.doms).length := by
        rw [hst', List.length_append, List.length_append, List.length_append, Hvl.out, Hel.out] at hle; omega
      have Hst2 := Lib.hid hst'
      clear hst hst' hle
      go_wp2_with fail
      refine (writeString_any _ _ ⟨varT.toArray⟩ _ HBk.out (by rw [size_mk, Hvl.out]; omega)).mono ?_
      rintro e W2 ⟨rfl, hB2, hk2⟩
      have HB2 := Lib.hid hB2
      have HK2 := Lib.hid (HKk.out.trans hk2)
      have HKt := Lib.hid hk2
      clear hB2 hk2
      go_wp2_with fail
      refine (numbers_any _ _ _ (nth [] x.doms k) _ _ HB2.out (HE1.out.below HK2.out.below hb8) hb8 ((Hst.out.kep HKk.out).sl (by decide) HT.out HKt.out) (Hst.out.kep HK2.out) (fun j hj => (Hd.out k hlt j hj).fit) (by rw [List.length_append]; show _ + varT.length + _ ≤ _; rw [Hvl.out]; omega)).mono ?_
      rintro e W3 ⟨rfl, hB3, hk3⟩
      have HB3 := Lib.hid hB3
      have HK3 := Lib.hid (HK2.out.trans hk3)
      clear hB3 hk3
      go_wp2_with fail
      refine (writeString_any _ _ ⟨endT.toArray⟩ _ HB3.out (by rw [size_mk, Hel.out, List.length_append, List.length_append]; show _ + varT.length + _ + _ ≤ _; rw [Hvl.out]; omega)).mono ?_
      rintro e W4 ⟨rfl, hB4, hk4⟩
      have HB4 := Lib.hid hB4
      have HK4 := Lib.hid (HK3.out.trans hk4)
      clear hB4 hk4
      go_wp2
      go_roundw
      case rel => exact ⟨k + 1, by go_num, by omega, Lib.hid (by rw [Hst2.out]; simpa only [List.append_assoc] using HB4.out), HK4⟩
      case measure => simp [intOf]; omega
    · have HBx : Hid (Bld W1.heap.size (domsP x.doms) wr) := by
        have e : x.doms.take k = x.doms := List.take_of_length_le (by omega)
        rw [e] at HBk; exact HBk
      clear HBk HB0
      obtain ⟨wo, rfl⟩ : ∃ wo : World, wo = wr := ⟨_, rfl⟩
      have HKo := Lib.hid HKk.out
      have g1 : wo.cell? ⟨w.heap.size, 1, none⟩ = some (.slice AH x.hard.length cH) := cell_at ((HKk.out.below.block _ Hgw.out).trans Hg.out) (i := 1) rfl
      clear HKk
      go_wp2
      clear g1
      go_loopw [30] (fun i wr => ∃ k : Nat, i = .int .i64 k ∧ k ≤ x.hard.length ∧ Hid (Bld W1.heap.size (domsP x.doms ++ hardsP (x.hard.take k)) wr) ∧ Hid (Kep W1.heap.size (W1.alloc (.cells #[.pointer none, .slice none 0 0] 65)) wr)) (fun i _ => x.hard.length - (intOf i).toNat)
      case atStart => exact ⟨0, rfl, by omega, Lib.hid (by simpa [hardsP] using HBx.out), HKo⟩
      case round =>
        obtain ⟨k, rfl, hk, HBk, HKk⟩ := hrel
        by_cases hlt : k < x.hard.length
        · obtain ⟨b1, o1, cs, rfl, _, hK, hcell⟩ := (Sl.elems (Hst.out.sl (by decide) HH1.out HKk.out)) k (nth default x.hard k) (nth_get default x.hard k hlt)
          obtain ⟨us, ur, ua, rfl, q1, q2, q3⟩ := kCon_cells hK
          have f0 := hcell 0 _ rfl
          have f1 := hcell 1 _ rfl
          have f2 := hcell 2 _ rfl
          have f3 := hcell 3 _ rfl
          simp only [show kCon.sz = 4 from rfl, Nat.add_zero, ← Nat.add_assoc] at f0 f1 f2 f3
          clear hcell hK
          have q1' := q1
          have q2' := q2
          have q3' := q3
          obtain ⟨B0, m0, rfl, _, _, _⟩ := q1
          obtain ⟨B1, m1, rfl, _, _, _⟩ := q2
          obtain ⟨B2, m2, rfl, _, _, _⟩ := q3
          have hst := flat_step (fun c => hardP c ++ endT) default x.hard k hlt
          have hle : (hardsP (x.hard.take (k + 1))).length ≤ (hardsP x.hard).length := flat_take_le _ x.hard (k + 1)
          have hst' : hardsP (x.hard.take (k + 1)) = hardsP (x.hard.take k) ++ (hardP (nth default x.hard k) ++ endT) := hst
          have hb3 : (hardsP (x.hard.take k)).length + (hardP (nth default x.hard k)).length + 2 ≤ (hardsP x.hard).length := by
            rw [hst', List.length_append, List.length_append, Hel.out] at hle; omega
          have Hst2 := Lib.hid hst'
          have hwl := Lib.hid HBk.out.lt
          have HS2 := Lib.hid ((Hst.out.kep HKk.out).below (below_alloc1 wr (.cells #[.int .i64 (nth default x.hard k).kind, .slice B0 (nth default x.hard k).scope.length m0, .slice B1 (nth default x.hard k).rows.length m1, .slice B2 (nth default x.hard k).args.length m2] 34)))
          have hcall := Lib.hid (hardw_any W1.heap.size _ _ _ _ x (nth default x.hard k) _ (wr.alloc (.cells #[.int .i64 (nth default x.hard k).kind, .slice B0 (nth default x.hard k).scope.length m0, .slice B1 (nth default x.hard k).rows.length m1, .slice B2 (nth default x.hard k).args.length m2] 34)) (HBk.out.move (below_alloc1 _ _)) ((HE1.out.below HKk.out.below hb8).below (below_alloc1 _ _) (HE1.out.below HKk.out.below hb8).size) hb8 HS2.out (q1'.below (by decide) (below_alloc1 _ _)) (q2'.below (by decide) (below_alloc1 _ _)) (q3'.below (by decide) (below_alloc1 _ _)) Hr.out ((right_hard Hr.out).2 k hlt) (by rw [List.length_append]; omega))
          clear hst hst' hle q1' q2' q3'
          go_wp2_with fail
          refine hcall.out.mono ?_
          rintro e W2 ⟨rfl, hB2, hk2⟩
          have HB2 := Lib.hid hB2
          have HK2 := Lib.hid (HKk.out.trans ((kep_alloc wr _ (Nat.le_of_lt hwl.out)).trans hk2))
          clear hB2 hk2
          go_wp2_with fail
          refine (writeString_any _ _ ⟨endT.toArray⟩ _ HB2.out (by rw [size_mk, Hel.out, List.length_append, List.length_append]; omega)).mono ?_
          rintro e W4 ⟨rfl, hB4, hk4⟩
          have HB4 := Lib.hid hB4
          have HK4 := Lib.hid (HK2.out.trans hk4)
          clear hB4 hk4 f0 f1 f2 f3
          go_wp2
          go_roundw
          case rel => exact ⟨k + 1, by go_num, by omega, Lib.hid (by rw [Hst2.out]; simpa only [List.append_assoc] using HB4.out), HK4⟩
          case measure => simp [intOf]; omega
        · have HBy : Hid (Bld W1.heap.size (domsP x.doms ++ hardsP x.hard) wr) := by
            have e : x.hard.take k = x.hard := List.take_of_length_le (by omega)
            rw [e] at HBk; exact HBk
          clear HBk HBx HKo
          have HBx := Lib.hid HBy.out
          clear HBy
          obtain ⟨wo, rfl⟩ : ∃ wo : World, wo = wr := ⟨_, rfl⟩
          have HKo := Lib.hid HKk.out
          have g2 : wo.cell? ⟨w.heap.size, 2, none⟩ = some (.slice AS x.soft.length cS) := cell_at ((HKk.out.below.block _ Hgw.out).trans Hg.out) (i := 2) rfl
          clear HKk
          go_wp2
          clear g2
          go_loopw [42] (fun i wr => ∃ k : Nat, i = .int .i64 k ∧ k ≤ x.soft.length ∧ Hid (Bld W1.heap.size (domsP x.doms ++ hardsP x.hard ++ softsP (x.soft.take k)) wr) ∧ Hid (Kep W1.heap.size (W1.alloc (.cells #[.pointer none, .slice none 0 0] 65)) wr)) (fun i _ => x.soft.length - (intOf i).toNat)
          case atStart => exact ⟨0, rfl, by omega, Lib.hid (by simpa [softsP] using HBx.out), HKo⟩
          case round =>
            obtain ⟨k, rfl, hk, HBk, HKk⟩ := hrel
            by_cases hlt : k < x.soft.length
            · obtain ⟨b1, o1, cs, rfl, _, hK, hcell⟩ := (Sl.elems (Hst.out.sl (by decide) HS1.out HKk.out)) k (nth default x.soft k) (nth_get default x.soft k hlt)
              obtain ⟨us, ur, uc, rfl, q1, q2, q3⟩ := kSft_cells hK
              have f0 := hcell 0 _ rfl
              have f1 := hcell 1 _ rfl
              have f2 := hcell 2 _ rfl
              have f3 := hcell 3 _ rfl
              simp only [show kSft.sz = 4 from rfl, Nat.add_zero, ← Nat.add_assoc] at f0 f1 f2 f3
              clear hcell hK
              have q1' := q1
              have q2' := q2
              have q3' := q3
              obtain ⟨B0, m0, rfl, _, _, _⟩ := q1
              obtain ⟨B1, m1, rfl, _, _, _⟩ := q2
              obtain ⟨B2, m2, rfl, _, _, _⟩ := q3
              have hst := flat_step (fun c => softP c ++ endT) default x.soft k hlt
              have hle : (softsP (x.soft.take (k + 1))).length ≤ (softsP x.soft).length := flat_take_le _ x.soft (k + 1)
              have hst' : softsP (x.soft.take (k + 1)) = softsP (x.soft.take k) ++ (softP (nth default x.soft k) ++ endT) := hst
              have hb3 : (softsP (x.soft.take k)).length + (softP (nth default x.soft k)).length + 2 ≤ (softsP x.soft).length := by
                rw [hst', List.length_append, List.length_append, Hel.out] at hle; omega
              have Hst2 := Lib.hid hst'
              have hwl := Lib.hid HBk.out.lt
              have HS2 := Lib.hid ((Hst.out.kep HKk.out).below (below_alloc1 wr (.cells #[.slice B0 (nth default x.soft k).scope.length m0, .slice B1 (nth default x.soft k).rows.length m1, .slice B2 (nth default x.soft k).costs.length m2, .int .i64 (nth default x.soft k).dflt] 37)))
              have hcall := Lib.hid (softx_any W1.heap.size _ _ _ _ x (nth default x.soft k) _ (wr.alloc (.cells #[.slice B0 (nth default x.soft k).scope.length m0, .slice B1 (nth default x.soft k).rows.length m1, .slice B2 (nth default x.soft k).costs.length m2, .int .i64 (nth default x.soft k).dflt] 37)) (HBk.out.move (below_alloc1 _ _)) ((HE1.out.below HKk.out.below hb8).below (below_alloc1 _ _) (HE1.out.below HKk.out.below hb8).size) hb8 HS2.out (q1'.below (by decide) (below_alloc1 _ _)) (q2'.below (by decide) (below_alloc1 _ _)) (q3'.below (by decide) (below_alloc1 _ _)) Hr.out ((right_soft Hr.out).2 k hlt) (by simp only [List.length_append]; omega))
              clear hst hst' hle q1' q2' q3'
              go_wp2_with fail
              refine hcall.out.mono ?_
              rintro e W2 ⟨rfl, hB2, hk2⟩
              have HB2 := Lib.hid hB2
              have HK2 := Lib.hid (HKk.out.trans ((kep_alloc wr _ (Nat.le_of_lt hwl.out)).trans hk2))
              clear hB2 hk2
              go_wp2_with fail
              refine (writeString_any _ _ ⟨endT.toArray⟩ _ HB2.out (by rw [size_mk, Hel.out]; simp only [List.length_append]; omega)).mono ?_
              rintro e W4 ⟨rfl, hB4, hk4⟩
              have HB4 := Lib.hid hB4
              have HK4 := Lib.hid (HK2.out.trans hk4)
              clear hB4 hk4 f0 f1 f2 f3
              go_wp2
              go_roundw
              case rel => exact ⟨k + 1, by go_num, by omega, Lib.hid (by rw [Hst2.out]; simpa only [List.append_assoc] using HB4.out), HK4⟩
              case measure => simp [intOf]; omega
            · have HBy : Hid (Bld W1.heap.size (domsP x.doms ++ hardsP x.hard ++ softsP x.soft) wr) := by
                have e : x.soft.take k = x.soft := List.take_of_length_le (by omega)
                rw [e] at HBk; exact HBk
              clear HBk HBx HKo
              go_wp2_with (go_at_call 33; refine (string_any _ _ _ HBy.out).mono ?_; rintro e W5 ⟨rfl, hb5⟩; have Hb5 := Lib.hid hb5; clear hb5)
              go_ret
              refine ⟨ret_str (by rw [HP.out]), ?_⟩
              exact below_next HB.out (Hb2.out.trans ((HKk.out.below.trans Hb5.out).mono (by have := Hgw.out; simp; omega)))

/-- inst.Print. -/
theorem print_any (vD vH vS : Value) (x : Ins) (ok : Nat → Prop) (w : World) (hE : Env w) (hD : Sl kRow w ok vD x.doms) (hH : Sl kCon w ok vH x.hard) (hS : Sl kSft w ok vS x.soft) (hlen : (printP x).length ≤ 140737488355328) :
    Calls Tryz.prog 9 #[.agg #[vD, vH, vS]] w fun e w' => e = .returned (.string ⟨(printP x).toArray⟩) ∧ Below w.heap.size w w' := by
  cases hr : rightB x
  · exact print_wrong vD vH vS x ok w hD hH hS hr
  · exact print_right vD vH vS x ok w hE hD hH hS hr hlen
end Go.Proofs.YtgpgmmkkmoecmaaGreatDoor

/- The contracts in the form in which the laws use them. -/
namespace Go.Proofs.YtgpgmmkkmoecmaaGreatDoor
open Go.RowKit
attribute [local irreducible] wpStill wpLex Calls

theorem Env.env0 {w : World} (h : Env w) : Env0 w := ⟨h.syn, h.rng⟩
theorem Env.tabs {w : World} (h : Env w) : Tabs w := ⟨h.words, h.hows⟩
/-- Anywhere. -/
def Any (_ : Nat) : Prop := True
theorem InsAt.below {w w1 : World} {ok : Nat → Prop} {dv hv sv : Value} {y : Ins} (h : InsAt w ok dv hv sv y) (hb : Below w.heap.size w w1) : InsAt w1 ok dv hv sv y :=
  ⟨h.1.below (by decide) hb, h.2.1.below (by decide) hb, h.2.2.below (by decide) hb⟩
theorem InsAt.mono {w : World} {ok ok' : Nat → Prop} {dv hv sv : Value} {y : Ins} (h : InsAt w ok dv hv sv y) (hk : ∀ k, ok k → ok' k) : InsAt w ok' dv hv sv y :=
  ⟨h.1.mono hk, h.2.1.mono hk, h.2.2.mono hk⟩
theorem InsAt.nil (w : World) (ok : Nat → Prop) : InsAt w ok (.slice none 0 0) (.slice none 0 0) (.slice none 0 0) ⟨[], [], []⟩ :=
  ⟨⟨none, 0, rfl, Nat.le_refl _, by simp, fun j x hx => by simp at hx⟩, ⟨none, 0, rfl, Nat.le_refl _, by simp, fun j x hx => by simp at hx⟩, ⟨none, 0, rfl, Nat.le_refl _, by simp, fun j x hx => by simp at hx⟩⟩
theorem reads_ok (l : List UInt8) (y : Ins) (w : World) (hE : Env w) (hl : l.length ≤ 140737488355328) (hq : parseP l = .ok y) :
    Calls Tryz.prog 10 #[.string ⟨l.toArray⟩] w fun e w' => (∃ DA Dc HA Hc SA Sc, e = .returned (.tuple #[.agg #[.slice DA y.doms.length Dc, .slice HA y.hard.length Hc, .slice SA y.soft.length Sc], .int .i64 0, .int .i64 0]) ∧ InsAt w' Any (.slice DA y.doms.length Dc) (.slice HA y.hard.length Hc) (.slice SA y.soft.length Sc) y ∧ y.doms.length ≤ 40 ∧ y.hard.length ≤ 200 ∧ y.soft.length ≤ 200) ∧ Below w.heap.size w w' := by
  refine (parse_any l w hE.env0 hE.tabs hE.size hl).mono ?_
  rintro e w' ⟨h, hb⟩
  rw [hq] at h
  obtain ⟨dv, hv, sv, rfl, hi, h1, h2, h3⟩ := h
  have hi' := hi.mono (ok' := Any) (fun _ _ => trivial)
  obtain ⟨⟨A1, c1, rfl, _⟩, ⟨A2, c2, rfl, _⟩, ⟨A3, c3, rfl, _⟩⟩ := hi
  exact ⟨⟨A1, c1, A2, c2, A3, c3, rfl, hi', h1, h2, h3⟩, hb⟩
theorem reads_err (l : List UInt8) (p x : Int) (w : World) (hE : Env w) (hl : l.length ≤ 140737488355328) (hq : parseP l = .error (p, x)) :
    Calls Tryz.prog 10 #[.string ⟨l.toArray⟩] w fun e w' => e = .returned (.tuple #[.agg #[.slice none 0 0, .slice none 0 0, .slice none 0 0], .int .i64 p, .int .i64 x]) ∧ Below w.heap.size w w' := by
  refine (parse_any l w hE.env0 hE.tabs hE.size hl).mono ?_
  rintro e w' ⟨h, hb⟩
  rw [hq] at h
  exact ⟨h, hb⟩
end Go.Proofs.YtgpgmmkkmoecmaaGreatDoor

/- An instance opened, as it is handed in. -/
namespace Go.Proofs.YtgpgmmkkmoecmaaGreatDoor
open Go.ChangeShapes Go.WideShapes Go.ChangeAt Go.RowKit

/-- Whatever reads as data of a type is data of a kind. -/
def Reads {H : Type} (enc : TypeId × Value → H) (w : World) {α : Type} (d : Kd α) (t : TypeId) : Prop :=
  Tryz.prog.cellsOf t = d.sz ∧ ∀ (fuel : Nat) (cs : List Value) (x : DataW H × List MemPlace), DataW.trod enc Tryz.prog w 0 (fun _ => true) true fuel t cs = some x → (x.1.weights Tryz.prog t).all (· ≤ reachBytes) = true → ∃ a, d.K w (fun _ => True) a cs
theorem weights_mem {H : Type} {P : Program} {e : TypeId} {p : Nat → Bool} : ∀ {l : List (DataW H)}, (DataW.weightsAll P e l).all p = true → ∀ d ∈ l, (d.weights P e).all p = true
  | [], _, d, hd => by simp at hd
  | a :: l, h, d, hd => by
    simp only [DataW.weightsAll, List.all_append, Bool.and_eq_true] at h
    rcases List.mem_cons.1 hd with rfl | hd
    · exact h.1
    · exact weights_mem h.2 d hd
theorem list_choose {α : Type} {p : Nat → α → Prop} : ∀ (n : Nat), (∀ j, j < n → ∃ x, p j x) → ∃ xs : List α, xs.length = n ∧ ∀ j x, xs[j]? = some x → p j x
  | 0, _ => ⟨[], rfl, fun j x h => by simp at h⟩
  | n + 1, h => by
    obtain ⟨xs, h1, h2⟩ := list_choose n fun j hj => h j (Nat.lt_succ_of_lt hj)
    obtain ⟨x, hx⟩ := h n (Nat.lt_succ_self n)
    refine ⟨xs ++ [x], by simp [h1], fun j y hy => ?_⟩
    rcases Nat.lt_or_ge j xs.length with hlt | hge
    · rw [List.getElem?_append_left hlt] at hy
      exact h2 j y hy
    · rw [List.getElem?_append_right hge] at hy
      have hj : j - xs.length = 0 := by have := (List.getElem?_eq_some_iff.1 hy).1; simp at this; omega
      rw [hj] at hy
      simp at hy
      subst hy
      rw [show j = n by omega]
      exact hx
theorem four {α : Type} {l : List α} (h : l.length = 4) : ∃ a b c d, l = [a, b, c, d] := by
  match l, h with
  | [a, b, c, d], _ => exact ⟨a, b, c, d, rfl⟩
section
variable {H : Type} {base : Nat} {enc : TypeId × Value → H} {w : World}
theorem reads_int {t : TypeId} {k : IntKind} (ht : Tryz.prog.underlying t = some (.int k)) (hc : Tryz.prog.cellsOf t = 1) : Reads enc w (Kd.int k) t :=
  ⟨hc, fun fuel cs x h _ => by
    obtain ⟨n, rfl, _⟩ := DataW.trod_int ht h
    exact ⟨n, rfl⟩⟩
theorem reads_slice {α : Type} {d : Kd α} {hs : 0 < d.sz} {t e : TypeId} (ht : Tryz.prog.underlying t = some (.slice e)) (hc : Tryz.prog.cellsOf t = 1) (hb : 1 ≤ Tryz.prog.bytesOf e) (hd : Reads enc w d e) : Reads enc w (Kd.slice d hs) t :=
  ⟨hc, fun fuel cs x h hw => by
    rcases Go.Deep.open_slice ht h with ⟨rfl, _⟩ | ⟨a, len, cap, m, n, D, Pl, rfl, _, hl, hm, hmm, rfl, hx⟩
    · exact ⟨[], _, rfl, none, 0, rfl, Nat.le_refl _, by simp, fun j x hx => by simp at hx⟩
    · simp only [if_true] at hmm
      subst hmm
      simp only [DataW.weights, ht, List.all_cons, List.all_append, Bool.and_eq_true, decide_eq_true_eq, List.length_map, List.length_range] at hw
      obtain ⟨hw1, hw2, _⟩ := hw
      have hlen : len ≤ 140737488355328 := by
        have h1 : len + (m - len) ≤ (len + (m - len)) * Tryz.prog.bytesOf e := Nat.le_mul_of_pos_right _ hb
        have h2 : reachBytes ≤ 140737488355328 := by decide
        omega
      have hsp : 0 < len → a.spot = none := by
        intro hj
        obtain ⟨cs', h1, h2⟩ := hx 0 (by omega)
        obtain ⟨y, hy⟩ := hd.2 n cs' _ h2 (weights_mem hw2 _ (List.mem_map.2 ⟨0, List.mem_range.2 hj, rfl⟩))
        have hcl := d.len hy
        obtain ⟨_, _, hcell⟩ := World.cells?_some h1
        rw [hd.1] at hcell
        have h0 := hcell 0 hs
        obtain ⟨u0, hu0⟩ : ∃ u, cs'[0]? = some u := ⟨_, List.getElem?_eq_getElem (by omega)⟩
        rw [hu0] at h0
        simpa [Addr.add] using World.cell?_spot h0
      have hel : ∀ j, j < len → ∃ (y : α), ∃ b o cs', some a = some (⟨b, o, none⟩ : Addr) ∧ d.K w (fun _ => True) y cs' ∧ ∀ i u, cs'[i]? = some u → w.cell? ⟨b, o + (j * d.sz + i), none⟩ = some u := by
        intro j hj
        obtain ⟨cs', h1, h2⟩ := hx j (by omega)
        obtain ⟨y, hy⟩ := hd.2 n cs' _ h2 (weights_mem hw2 _ (List.mem_map.2 ⟨j, List.mem_range.2 hj, rfl⟩))
        have hcl := d.len hy
        obtain ⟨_, _, hcell⟩ := World.cells?_some h1
        rw [hd.1] at hcell
        obtain ⟨b, o, spot⟩ := a
        obtain rfl : spot = none := hsp (by omega)
        refine ⟨y, b, o, cs', rfl, hy, fun i u hu => ?_⟩
        have hi : i < cs'.length := (List.getElem?_eq_some_iff.1 hu).1
        have h3 := hcell i (by omega)
        rw [hu] at h3
        have e1 : ((⟨b, o, none⟩ : Addr).add (j * d.sz)).add i = ⟨b, o + (j * d.sz + i), none⟩ := by
          unfold Addr.add; split <;> (try split) <;> simp_all <;> omega
        rw [e1] at h3
        exact h3
      obtain ⟨xs, hxl, hxs⟩ := list_choose len hel
      refine ⟨xs, _, rfl, some a, m, by rw [hxl], by omega, by omega, fun j y hy => ?_⟩
      obtain ⟨b, o, cs', h1, h2, h3⟩ := hxs j y hy
      exact ⟨b, o, cs', h1, trivial, h2, h3⟩⟩
theorem reads_row : Reads enc w kRow 32 := reads_slice Tryz.underlying32 (by kernel_rfl) (of_decide_eq_true (by kernel_rfl)) (reads_int Tryz.underlying3 (by kernel_rfl))
theorem reads_rows : Reads enc w kRows 26 := reads_slice Tryz.underlying26 (by kernel_rfl) (of_decide_eq_true (by kernel_rfl)) reads_row
theorem reads_costs : Reads enc w kRow 35 := reads_slice Tryz.underlying35 (by kernel_rfl) (of_decide_eq_true (by kernel_rfl)) (reads_int Tryz.underlying2 (by kernel_rfl))
theorem reads_con : Reads enc w kCon 34 :=
  ⟨by kernel_rfl, fun fuel cs x h hw => by
    obtain ⟨y0, y1, y2, y3, n, rfl, hl, h0, h1, h2, h3⟩ := Go.Joins.trod_struct4 Tryz.underlying34 h
    simp only [DataW.weights, Tryz.underlying34, DataW.weightsEach, List.map_cons, List.map_nil, List.all_append, Bool.and_eq_true] at hw
    obtain ⟨w0, w1, w2, w3, _⟩ := hw
    obtain ⟨c0, c1, c2, c3, rfl⟩ := four (hl.trans (by kernel_rfl))
    rw [show Tryz.prog.cellsOf _ = 1 from by kernel_rfl] at h0 h1 h2 h3
    obtain ⟨k, hk⟩ := (reads_int (enc := enc) (w := w) Tryz.underlying3 (by kernel_rfl)).2 _ _ _ h0 w0
    obtain ⟨ls, v1, e1, hs⟩ := reads_row.2 _ _ _ h1 w1
    obtain ⟨lr, v2, e2, hr⟩ := reads_rows.2 _ _ _ h2 w2
    obtain ⟨la, v3, e3, ha⟩ := reads_row.2 _ _ _ h3 w3
    have hk : c0 = .int .i64 k := by simpa [Kd.int, Kd.scalar] using hk
    obtain rfl : c1 = v1 := by simpa using e1
    obtain rfl : c2 = v2 := by simpa using e2
    obtain rfl : c3 = v3 := by simpa using e3
    subst hk
    exact ⟨⟨k, ls, lr, la⟩, kCon_mk (c := ⟨k, ls, lr, la⟩) hs hr ha⟩⟩
theorem reads_sft : Reads enc w kSft 37 :=
  ⟨by kernel_rfl, fun fuel cs x h hw => by
    obtain ⟨y0, y1, y2, y3, n, rfl, hl, h0, h1, h2, h3⟩ := Go.Joins.trod_struct4 Tryz.underlying37 h
    simp only [DataW.weights, Tryz.underlying37, DataW.weightsEach, List.map_cons, List.map_nil, List.all_append, Bool.and_eq_true] at hw
    obtain ⟨w0, w1, w2, w3, _⟩ := hw
    obtain ⟨c0, c1, c2, c3, rfl⟩ := four (hl.trans (by kernel_rfl))
    rw [show Tryz.prog.cellsOf _ = 1 from by kernel_rfl] at h0 h1 h2 h3
    obtain ⟨ls, v0, e0, hs⟩ := reads_row.2 _ _ _ h0 w0
    obtain ⟨lr, v1, e1, hr⟩ := reads_rows.2 _ _ _ h1 w1
    obtain ⟨lc, v2, e2, hc⟩ := reads_costs.2 _ _ _ h2 w2
    obtain ⟨k, hk⟩ := (reads_int (enc := enc) (w := w) Tryz.underlying2 (by kernel_rfl)).2 _ _ _ h3 w3
    have hk : c3 = .int .i64 k := by simpa [Kd.int, Kd.scalar] using hk
    obtain rfl : c0 = v0 := by simpa using e0
    obtain rfl : c1 = v1 := by simpa using e1
    obtain rfl : c2 = v2 := by simpa using e2
    subst hk
    exact ⟨⟨ls, lr, lc, k⟩, kSft_mk (s := ⟨ls, lr, lc, k⟩) hs hr hc⟩⟩
set_option maxRecDepth 100000 in
theorem open_inst {v : Value} {d : DataW H} {ps : List MemPlace} (hv : Value.okWide Tryz.prog w .any base 30 v) (h : DataW.Trod enc Tryz.prog w 0 (fun _ => true) true 30 v d ps)
    (hsz : (DataW.weightsEach Tryz.prog [30] [d]).all (· ≤ reachBytes) = true) : ∃ v0 v1 v2 x, v = .agg #[v0, v1, v2] ∧ InsAt w (fun _ => True) v0 v1 v2 x := by
  obtain ⟨v0, v1, v2, y0, y1, y2, n, rfl, rfl, rfl, h0, h1, h2⟩ := Go.Joins.open_agg3 Tryz.underlying30 (by kernel_rfl) (by kernel_rfl) hv h
  simp only [DataW.weights, Tryz.underlying30, DataW.weightsEach, List.map_cons, List.map_nil, List.all_append, Bool.and_eq_true, List.append_nil] at hsz
  obtain ⟨w0, w1, w2⟩ := hsz
  obtain ⟨ld, u0, e0, hd⟩ := (reads_rows (enc := enc) (w := w)).2 _ _ _ h0 w0
  obtain ⟨lh, u1, e1, hh⟩ := (reads_slice (hs := by decide) Tryz.underlying27 (by kernel_rfl) (of_decide_eq_true (by kernel_rfl)) (reads_con (enc := enc) (w := w))).2 _ _ _ h1 w1
  obtain ⟨ls, u2, e2, hs⟩ := (reads_slice (hs := by decide) Tryz.underlying28 (by kernel_rfl) (of_decide_eq_true (by kernel_rfl)) (reads_sft (enc := enc) (w := w))).2 _ _ _ h2 w2
  obtain rfl : v0 = u0 := by simpa using e0
  obtain rfl : v1 = u1 := by simpa using e1
  obtain rfl : v2 = u2 := by simpa using e2
  exact ⟨_, _, _, ⟨ld, lh, ls⟩, rfl, hd, hh, hs⟩
end
end Go.Proofs.YtgpgmmkkmoecmaaGreatDoor

/- Closed calls, evaluated: values whose blocks have names; tables by number. Plain lemmas over the model; no program. -/
namespace Go.Proofs.YtgpgmmkkmoecmaaGreatDoor
open Go

/-- A value; blocks are named. s: a slice; r: its capacity is that of its block, less c; otherwise it is c. z: an empty slice, nil or not; y: an empty one, behind the end of what is in use. -/
inductive AV where
  | c (v : Value)
  | p (i o : Nat)
  | s (i o n : Nat) (r : Bool) (c : Nat)
  | z (i : Nat)
  | y (i o e c l : Nat)
  | m (i : Nat)
  | g (l : List AV)
  | t (l : List AV)
  | f (k : Nat) (u l : List AV)
  deriving Inhabited
/-- What a name stands for: the block; where in it; how many elements there is room for; the address of an empty slice. -/
structure Bk where
  b : Nat
  o : Nat
  k : Nat
  nl : Option Addr
abbrev Nm := Nat → Option Bk
mutual
def conc (γ : Nm) : AV → Option Value
  | .c v => some v
  | .p i o => (γ i).map fun x => .pointer (some ⟨x.b, x.o + o, none⟩)
  | .s i o n r c => (γ i).bind fun x => bif r && Nat.blt x.k (n + c) then none else some (.slice (some ⟨x.b, x.o + o, none⟩) n (bif r then x.k - c else c))
  | .z i => (γ i).map fun x => .slice x.nl 0 x.k
  | .y i o e c l => (γ i).bind fun x => bif Nat.blt x.k (c + l) then none else some (.slice (some ⟨x.b, x.o + (if x.k - c = l then o else o + l * e), none⟩) 0 (x.k - c - l))
  | .m i => (γ i).map fun x => .map (some x.b)
  | .g l => (concL γ l).map fun vs => .agg vs.toArray
  | .t l => (concL γ l).map fun vs => .tuple vs.toArray
  | .f k u l => match concL γ u with
    | none => none
    | some us => (concL γ l).map fun vs => .func (.func k) us.toArray vs.toArray
def concL (γ : Nm) : List AV → Option (List Value)
  | [] => some []
  | x :: l => match conc γ x with
    | none => none
    | some v => (concL γ l).map (v :: ·)
end
/-- More names, and what had a name keeps it. -/
def Ext (γ γ' : Nm) : Prop := ∀ i x, γ i = some x → γ' i = some x
theorem Ext.refl (γ : Nm) : Ext γ γ := fun _ _ h => h
theorem Ext.trans {a b c : Nm} (h : Ext a b) (h' : Ext b c) : Ext a c := fun i x hx => h' i x (h i x hx)
mutual
theorem conc_ext {γ γ' : Nm} (h : Ext γ γ') : ∀ (x : AV) {v : Value}, conc γ x = some v → conc γ' x = some v
  | .c _, _, hv => by simpa [conc] using hv
  | .p i o, _, hv => by
    simp only [conc, Option.map_eq_some_iff] at hv ⊢
    obtain ⟨a, ha, e⟩ := hv; exact ⟨a, h _ _ ha, e⟩
  | .s i o n r c, _, hv => by
    simp only [conc, Option.bind_eq_some_iff] at hv ⊢
    obtain ⟨a, ha, e⟩ := hv; exact ⟨a, h _ _ ha, e⟩
  | .m i, _, hv => by
    simp only [conc, Option.map_eq_some_iff] at hv ⊢
    obtain ⟨a, ha, e⟩ := hv; exact ⟨a, h _ _ ha, e⟩
  | .y i o e c l, _, hv => by
    simp only [conc, Option.bind_eq_some_iff] at hv ⊢
    obtain ⟨a, ha, e⟩ := hv; exact ⟨a, h _ _ ha, e⟩
  | .z i, _, hv => by
    simp only [conc, Option.map_eq_some_iff] at hv ⊢
    obtain ⟨a, ha, e⟩ := hv; exact ⟨a, h _ _ ha, e⟩
  | .g l, _, hv => by
    simp only [conc, Option.map_eq_some_iff] at hv ⊢
    obtain ⟨a, ha, e⟩ := hv; exact ⟨a, concL_ext h l ha, e⟩
  | .t l, _, hv => by
    simp only [conc, Option.map_eq_some_iff] at hv ⊢
    obtain ⟨a, ha, e⟩ := hv; exact ⟨a, concL_ext h l ha, e⟩
  | .f k u l, _, hv => by
    simp only [conc] at hv ⊢
    cases hu : concL γ u with
    | none => simp [hu] at hv
    | some us =>
      simp only [hu, Option.map_eq_some_iff] at hv
      obtain ⟨a, ha, e⟩ := hv
      simp [concL_ext h u hu, concL_ext h l ha, e]
theorem concL_ext {γ γ' : Nm} (h : Ext γ γ') : ∀ (l : List AV) {vs : List Value}, concL γ l = some vs → concL γ' l = some vs
  | [], _, hv => by simpa [concL] using hv
  | x :: l, vs, hv => by
    simp only [concL] at hv ⊢
    cases hx : conc γ x with
    | none => simp [hx] at hv
    | some v =>
      simp only [hx, Option.map_eq_some_iff] at hv
      obtain ⟨a, ha, e⟩ := hv
      simp [conc_ext h x hx, concL_ext h l ha, e]
end
section
variable {γ : Nm}
theorem concL_cons {x : AV} {l : List AV} {vs : List Value} : concL γ (x :: l) = some vs ↔ ∃ v r, conc γ x = some v ∧ concL γ l = some r ∧ vs = v :: r := by
  simp only [concL]
  cases conc γ x with
  | none => simp
  | some v =>
    simp only [Option.map_eq_some_iff, Option.some.injEq]
    exact ⟨fun ⟨a, h, e⟩ => ⟨v, a, rfl, h, e.symm⟩, fun ⟨_, a, e, h, e2⟩ => ⟨a, h, by rw [e2, e]⟩⟩
theorem concL_len : ∀ {l : List AV} {vs : List Value}, concL γ l = some vs → vs.length = l.length
  | [], vs, h => by simp [concL] at h; subst h; simp
  | x :: l, vs, h => by
    obtain ⟨v, r, _, hr, rfl⟩ := concL_cons.1 h
    simp [concL_len hr]
theorem concL_get : ∀ {l : List AV} {vs : List Value}, concL γ l = some vs → ∀ (i : Nat), vs[i]? = (l[i]?).bind (conc γ)
  | [], vs, h, i => by simp [concL] at h; subst h; simp
  | x :: l, vs, h, i => by
    obtain ⟨v, r, hv, hr, rfl⟩ := concL_cons.1 h
    cases i with
    | zero => simp [hv]
    | succ i => simpa using concL_get hr i
theorem concL_append : ∀ {l l' : List AV} {vs vs' : List Value}, concL γ l = some vs → concL γ l' = some vs' → concL γ (l ++ l') = some (vs ++ vs')
  | [], _, vs, _, h, h' => by simp [concL] at h; subst h; simpa using h'
  | x :: l, _, vs, _, h, h' => by
    obtain ⟨v, r, hv, hr, rfl⟩ := concL_cons.1 h
    exact concL_cons.2 ⟨v, _, hv, concL_append hr h', rfl⟩
theorem concL_take : ∀ {l : List AV} {vs : List Value} (n : Nat), concL γ l = some vs → concL γ (l.take n) = some (vs.take n)
  | [], vs, n, h => by simp [concL] at h; subst h; simp [concL]
  | x :: l, vs, 0, h => by simp [concL]
  | x :: l, vs, n + 1, h => by
    obtain ⟨v, r, hv, hr, rfl⟩ := concL_cons.1 h
    exact concL_cons.2 ⟨v, _, hv, concL_take n hr, rfl⟩
theorem concL_drop : ∀ {l : List AV} {vs : List Value} (n : Nat), concL γ l = some vs → concL γ (l.drop n) = some (vs.drop n)
  | [], vs, n, h => by simp [concL] at h; subst h; simp [concL]
  | x :: l, vs, 0, h => by simpa using h
  | x :: l, vs, n + 1, h => by
    obtain ⟨v, r, hv, hr, rfl⟩ := concL_cons.1 h
    exact concL_drop n hr
theorem concL_set : ∀ {l : List AV} {vs : List Value} {x : AV} {v : Value} (n : Nat), concL γ l = some vs → conc γ x = some v → concL γ (l.set n x) = some (vs.set n v)
  | [], vs, _, _, n, h, _ => by simp [concL] at h; subst h; simp [concL]
  | y :: l, vs, x, v, 0, h, hx => by
    obtain ⟨u, r, hu, hr, rfl⟩ := concL_cons.1 h
    exact concL_cons.2 ⟨v, r, hx, hr, rfl⟩
  | y :: l, vs, x, v, n + 1, h, hx => by
    obtain ⟨u, r, hu, hr, rfl⟩ := concL_cons.1 h
    exact concL_cons.2 ⟨u, _, hu, concL_set n hr hx, rfl⟩
theorem concL_c : ∀ (l : List Value), concL γ (l.map .c) = some l
  | [] => rfl
  | v :: l => concL_cons.2 ⟨v, l, rfl, concL_c l, rfl⟩
end
theorem conc_slice {γ : Nm} {i o n c : Nat} {r : Bool} {v : Value} (h : conc γ (.s i o n r c) = some v) : ∃ a b d, v = .slice a b d := by
  simp only [conc, Option.bind_eq_some_iff] at h
  obtain ⟨a, _, e⟩ := h
  revert e
  cases (r && Nat.blt a.k (n + c)) with
  | true => simp
  | false => intro e; simp only [cond_false, Option.some.injEq] at e; exact ⟨_, _, _, e.symm⟩
theorem conc_empty {γ : Nm} {i o e c l : Nat} {v : Value} (h : conc γ (.y i o e c l) = some v) : ∃ a d, v = .slice (some a) 0 d := by
  simp only [conc, Option.bind_eq_some_iff] at h
  obtain ⟨a, _, e⟩ := h
  revert e
  cases Nat.blt a.k (c + l) with
  | true => simp
  | false => intro e; simp only [cond_false, Option.some.injEq] at e; exact ⟨_, _, e.symm⟩
theorem conc_func {γ : Nm} {k : Nat} {u l : List AV} {v : Value} (h : conc γ (.f k u l) = some v) : ∃ us vs, concL γ u = some us ∧ concL γ l = some vs ∧ v = .func (.func k) us.toArray vs.toArray := by
  simp only [conc] at h
  cases hu : concL γ u with
  | none => simp [hu] at h
  | some us =>
    simp only [hu, Option.map_eq_some_iff] at h
    obtain ⟨a, ha, e⟩ := h
    exact ⟨us, a, rfl, ha, e.symm⟩
/-- A value's cells. -/
def AV.cells : AV → List AV
  | .g l => l
  | .c (.agg cs) => cs.toList.map .c
  | x => [x]
theorem cells_conc {γ : Nm} {x : AV} {v : Value} (h : conc γ x = some v) : concL γ x.cells = some v.cells.toList := by
  have one : ∀ {y : AV} {u : Value}, conc γ y = some u → (∀ cs, u ≠ .agg cs) → concL γ [y] = some u.cells.toList := by
    intro y u hy hu
    refine concL_cons.2 ⟨u, [], hy, rfl, ?_⟩
    cases u <;> first | rfl | exact absurd rfl (hu _)
  cases x with
  | g l =>
    simp only [conc, Option.map_eq_some_iff] at h
    obtain ⟨a, ha, rfl⟩ := h
    simpa [AV.cells, Value.cells] using ha
  | c u =>
    simp only [conc, Option.some.injEq] at h
    subst h
    cases u with
    | agg cs => simpa [AV.cells, Value.cells] using concL_c cs.toList
    | _ => exact one rfl (by simp)
  | p i o =>
    refine one h ?_
    simp only [conc, Option.map_eq_some_iff] at h
    obtain ⟨a, _, rfl⟩ := h; simp
  | s i o n r c =>
    refine one h ?_
    obtain ⟨a, b, d, rfl⟩ := conc_slice h
    simp
  | m i =>
    refine one h ?_
    simp only [conc, Option.map_eq_some_iff] at h
    obtain ⟨a, _, rfl⟩ := h; simp
  | y i o e c l =>
    refine one h ?_
    obtain ⟨a, d, rfl⟩ := conc_empty h
    simp
  | z i =>
    refine one h ?_
    simp only [conc, Option.map_eq_some_iff] at h
    obtain ⟨a, _, rfl⟩ := h; simp
  | t l =>
    refine one h ?_
    simp only [conc, Option.map_eq_some_iff] at h
    obtain ⟨a, _, rfl⟩ := h; simp
  | f k u l =>
    refine one h ?_
    obtain ⟨us, vs, _, _, rfl⟩ := conc_func h
    simp
/-- It may stand in one cell. -/
def AV.flat : AV → Bool
  | .g _ | .t _ | .c (.agg _) | .c (.tuple _) => false
  | _ => true
theorem flat_conc {γ : Nm} {x : AV} {v : Value} (hf : x.flat = true) (h : conc γ x = some v) : (∀ cs, v ≠ .agg cs) ∧ ∀ cs, v ≠ .tuple cs := by
  cases x with
  | c u =>
    simp only [conc, Option.some.injEq] at h
    subst h
    cases u <;> simp_all [AV.flat]
  | g l => simp [AV.flat] at hf
  | t l => simp [AV.flat] at hf
  | s i o n r c => obtain ⟨a, b, d, rfl⟩ := conc_slice h; simp
  | y i o e c l => obtain ⟨a, d, rfl⟩ := conc_empty h; simp
  | f k u l => obtain ⟨us, vs, _, _, rfl⟩ := conc_func h; simp
  | _ =>
    simp only [conc, Option.map_eq_some_iff] at h
    obtain ⟨a, _, rfl⟩ := h; simp
/-! ### Tables -/
inductive Tr (α : Type) where
  | e
  | n (l : Tr α) (v : Option α) (r : Tr α)
noncomputable def Tr.get {α : Type} (t : Tr α) : Nat → Option α := Tr.rec (motive := fun _ => Nat → Option α) (fun _ => none) (fun _ v _ gl gr k => bif Nat.beq k 0 then v else bif Nat.beq (k % 2) 1 then gl (k / 2) else gr (k / 2 - 1)) t
/-- One entry alone. -/
noncomputable def Tr.one {α : Type} (x : Option α) (f : Nat) : Nat → Tr α := Nat.rec (motive := fun _ => Nat → Tr α) (fun _ => .e) (fun _ g k => bif Nat.beq k 0 then .n .e x .e else bif Nat.beq (k % 2) 1 then .n (g (k / 2)) none .e else .n .e none (g (k / 2 - 1))) f
noncomputable def Tr.put {α : Type} (t : Tr α) (k : Nat) (x : Option α) : Tr α := Tr.rec (motive := fun _ => Nat → Tr α) (fun k => Tr.one x 40 k) (fun l v r gl gr k => bif Nat.beq k 0 then .n l x r else bif Nat.beq (k % 2) 1 then .n (gl (k / 2)) v r else .n l v (gr (k / 2 - 1))) t k
section
variable {α : Type}
theorem beq_dec (a b : Nat) : Nat.beq a b = decide (a = b) := by
  by_cases hab : a = b
  · subst hab; simp
  · rw [decide_eq_false hab]; exact Bool.eq_false_iff.2 fun h => hab (Nat.eq_of_beq_eq_true h)
theorem Tr.get_e (k : Nat) : (Tr.e : Tr α).get k = none := rfl
theorem Tr.get_n (l r : Tr α) (v : Option α) (k : Nat) : (Tr.n l v r).get k = if k = 0 then v else if k % 2 = 1 then l.get (k / 2) else r.get (k / 2 - 1) := by
  show (bif Nat.beq k 0 then v else bif Nat.beq (k % 2) 1 then l.get (k / 2) else r.get (k / 2 - 1)) = _
  rw [beq_dec, beq_dec]
  by_cases h0 : k = 0
  · simp [h0]
  · by_cases h1 : k % 2 = 1 <;> simp [h0, h1]
theorem Tr.one_s (x : Option α) (f k : Nat) : Tr.one x (f + 1) k = if k = 0 then .n .e x .e else if k % 2 = 1 then .n (Tr.one x f (k / 2)) none .e else .n .e none (Tr.one x f (k / 2 - 1)) := by
  show (bif Nat.beq k 0 then Tr.n Tr.e x Tr.e else bif Nat.beq (k % 2) 1 then Tr.n (Tr.one x f (k / 2)) none Tr.e else Tr.n Tr.e none (Tr.one x f (k / 2 - 1))) = _
  rw [beq_dec, beq_dec]
  by_cases h0 : k = 0
  · simp [h0]
  · by_cases h1 : k % 2 = 1 <;> simp [h0, h1]
theorem Tr.put_n (l r : Tr α) (v x : Option α) (k : Nat) : (Tr.n l v r).put k x = if k = 0 then .n l x r else if k % 2 = 1 then .n (l.put (k / 2) x) v r else .n l v (r.put (k / 2 - 1) x) := by
  show (bif Nat.beq k 0 then Tr.n l x r else bif Nat.beq (k % 2) 1 then Tr.n (l.put (k / 2) x) v r else Tr.n l v (r.put (k / 2 - 1) x)) = _
  rw [beq_dec, beq_dec]
  by_cases h0 : k = 0
  · simp [h0]
  · by_cases h1 : k % 2 = 1 <;> simp [h0, h1]
theorem Tr.get_one (x : Option α) : ∀ (f k j : Nat), k + 1 < 2 ^ f → (Tr.one x f k).get j = if j = k then x else none := by
  intro f
  induction f with
  | zero => intro k j h; simp at h
  | succ f ih =>
    intro k j h
    have h2 : 2 ^ (f + 1) = 2 * 2 ^ f := by rw [Nat.pow_succ]; omega
    rw [Tr.one_s]
    by_cases k0 : k = 0
    · subst k0; simp only [if_true, Tr.get_n, Tr.get_e]
      by_cases j0 : j = 0 <;> simp [j0]
    · by_cases k1 : k % 2 = 1
      · simp only [k0, k1, if_true, if_false, Tr.get_n, Tr.get_e]
        by_cases j0 : j = 0
        · have : ¬ 0 = k := by omega
          simp [j0, this]
        · by_cases j1 : j % 2 = 1
          · simp only [j0, j1, if_true, if_false]
            rw [ih _ _ (by omega)]
            by_cases hjk : j = k
            · simp [hjk]
            · have : ¬ j / 2 = k / 2 := by omega
              simp [hjk, this]
          · have : ¬ j = k := by intro e; exact j1 (e ▸ k1)
            simp [j0, j1, this]
      · simp only [k0, k1, if_false, Tr.get_n, Tr.get_e]
        by_cases j0 : j = 0
        · have : ¬ 0 = k := by omega
          simp [j0, this]
        · by_cases j1 : j % 2 = 1
          · have : ¬ j = k := by intro e; exact k1 (e ▸ j1)
            simp [j0, j1, this]
          · simp only [j0, j1, if_false]
            rw [ih _ _ (by omega)]
            by_cases hjk : j = k
            · simp [hjk]
            · have : ¬ j / 2 - 1 = k / 2 - 1 := by omega
              simp [hjk, this]
theorem Tr.get_put_aux (x : Option α) (t : Tr α) : ∀ (k j : Nat), k + 1 < 2 ^ 40 → (t.put k x).get j = if j = k then x else t.get j := by
  induction t with
  | e => intro k j h; exact Tr.get_one x 40 k j h
  | n l v r ihl ihr =>
    intro k j h
    rw [Tr.put_n]
    by_cases k0 : k = 0
    · subst k0; simp only [if_true, Tr.get_n]
      by_cases j0 : j = 0 <;> simp [j0]
    · by_cases k1 : k % 2 = 1
      · simp only [k0, k1, if_true, if_false, Tr.get_n]
        by_cases j0 : j = 0
        · have : ¬ 0 = k := by omega
          simp [j0, this]
        · by_cases j1 : j % 2 = 1
          · simp only [j0, j1, if_true, if_false]
            rw [ihl _ _ (by omega)]
            by_cases hjk : j = k
            · simp [hjk]
            · have : ¬ j / 2 = k / 2 := by omega
              simp [hjk, this]
          · have : ¬ j = k := by intro e; exact j1 (e ▸ k1)
            simp [j0, j1, this]
      · simp only [k0, k1, if_false, Tr.get_n]
        by_cases j0 : j = 0
        · have : ¬ 0 = k := by omega
          simp [j0, this]
        · by_cases j1 : j % 2 = 1
          · have : ¬ j = k := by intro e; exact k1 (e ▸ j1)
            simp [j0, j1, this]
          · simp only [j0, j1, if_false]
            rw [ihr _ _ (by omega)]
            by_cases hjk : j = k
            · simp [hjk]
            · have : ¬ j / 2 - 1 = k / 2 - 1 := by omega
              simp [hjk, this]
end
/-- Numbers in use stay below this. -/
theorem Tr.get_put {α : Type} {t : Tr α} {k j : Nat} {x : Option α} (h : k < 1000000000) : (t.put k x).get j = if j = k then x else t.get j :=
  Tr.get_put_aux x t k j (by have : (2:Nat) ^ 40 = 1099511627776 := by decide
                             omega)
end Go.Proofs.YtgpgmmkkmoecmaaGreatDoor

/- Closed calls, evaluated: what each operation does to named blocks. Definitions; no program. -/
namespace Go.Proofs.YtgpgmmkkmoecmaaGreatDoor
open Go
noncomputable section

/-- A block. cells: all of it, or (g) what is in use of what 'append' made; ro: what can be read of it; map. -/
inductive AO where
  | cells (l : List AV) (e : TypeId) (g : Bool)
  | ro (l : List AV)
  | map (es : List (Value × AV))
  | iter (m : Nat)
structure ES where
  h : Tr AO
  x : Nat
/-- Where: the program; names below G are package variables; calls that are answered otherwise. -/
structure Ev where
  P : Program
  G : Nat
  ov : Nat → List AV → ES → Option (Option (AV × ES))
/-- What a computation without memory gives. -/
def valS {α : Type} (P : Program) : Sem α → Option α
  | .pure a => some a
  | .program k => valS P (k P)
  | .mark _ k => valS P k
  | _ => none
def aev (tm : Tr AV) : Operand → AV
  | .tmp t => match tm.get t with
    | some v => v
    | none => .c undef
  | .const v => .c v
  | .global g => .c (.pointer (some ⟨g, 0, none⟩))
  | .func f => .f f [] []
section
variable (E : Ev)
def szOf (t : TypeId) : Option Nat := (E.P.info? t).map (·.size)
def aggB (t : TypeId) : Option Bool := match E.P.underlying t with
  | some (.struct _) | some (.array _ _) => some true
  | some _ => some false
  | none => none
def zeroV (t : TypeId) : Option Value := (E.P.info? t).bind (·.zero)
def addrA : AV → Option (Nat × Nat)
  | .p i o => some (i, o)
  | .c (.pointer (some ⟨b, o, none⟩)) => bif Nat.blt b E.G then some (b, o) else none
  | _ => none
def AO.list : AO → Option (List AV)
  | .cells l _ _ => some l
  | .ro l => some l
  | .map _ => none
  | .iter _ => none
def rd (st : ES) (i o n : Nat) : Option (List AV) := match st.h.get i with
  | none => none
  | some ob => match ob.list with
    | none => none
    | some l => bif Nat.ble (o + n) l.length then some ((l.drop o).take n) else none
def wr (st : ES) (i o : Nat) (vs : List AV) : Option ES := match st.h.get i with
  | some (.cells l e g) => bif Nat.ble (o + vs.length) l.length && vs.all AV.flat then some ⟨st.h.put i (some (.cells (l.take o ++ (vs ++ l.drop (o + vs.length))) e g)), st.x⟩ else none
  | _ => none
def ldA (st : ES) (t : TypeId) (x : AV) : Option AV := match addrA E x, aggB E t, szOf E t with
  | some (i, o), some true, some n => (rd st i o n).map .g
  | some (i, o), some false, _ => (rd st i o 1).bind (·.head?)
  | _, _, _ => none
/-- Of a value's cells, a part. -/
def partA (t : TypeId) (l : List AV) (o : Nat) : Option AV := match aggB E t, szOf E t with
  | some true, some n => bif Nat.ble (o + n) l.length then some (.g ((l.drop o).take n)) else none
  | some false, _ => l[o]?
  | _, _ => none
def eqA (d : TypeDesc) (x y : AV) : Option Bool := match d, x, y with
  | .pointer _, .p _ _, .c (.pointer none) => some false
  | .pointer _, .c (.pointer none), .p _ _ => some false
  | .slice _, .s .., .c (.slice none _ _) => some false
  | .slice _, .y .., .c (.slice none _ _) => some false
  | .slice _, .c (.slice none _ _), .s .. => some false
  | .map _ _, .m _, .c (.map none) => some false
  | .map _ _, .c (.map none), .m _ => some false
  | .func .., .f .., .c .nilFunc => some false
  | .func .., .c .nilFunc, .f .. => some false
  | _, _, _ => none
def idxA (ρ : Operand → AV) (d : Nat) : Option Operand → Option Nat
  | none => some d
  | some x => match ρ x with
    | .c (.int _ (.ofNat n)) => some n
    | _ => none
def sliceA (sz i o n : Nat) (r : Bool) (c l h : Nat) (m : Option Nat) : Option AV :=
  bif Nat.ble l h && (bif r then Nat.ble h n else Nat.ble h c) then
    match m with
    | none =>
      bif r then (bif Nat.beq l 0 then some (.s i o h true c) else bif Nat.blt l n then some (.s i (o + l * sz) (h - l) true (c + l)) else some (.y i o sz c l))
      else bif Nat.beq l c then some (.s i o 0 false 0) else some (.s i (o + l * sz) (h - l) false (c - l))
    | some m => bif Nat.ble h m && (bif r then Nat.ble m n else Nat.ble m c) then
        (bif Nat.beq l m then some (.s i o 0 false 0) else some (.s i (o + l * sz) (h - l) false (m - l)))
      else none
  else none
def fillA (place : Nat → Option (Nat × Nat)) (ρ : Operand → AV) : List (Nat × Operand) → List AV → Option (List AV)
  | [], l => some l
  | (i, x) :: rest, l => match place i with
    | none => none
    | some (o, n) => let vs := (ρ x).cells
      bif Nat.beq vs.length n && Nat.ble (o + n) l.length then fillA place ρ rest (l.take o ++ (vs ++ l.drop (o + n))) else none
def placesA : List Field → Option (List (Nat × Nat))
  | [] => some []
  | f :: fs => match szOf E f.type, placesA fs with
    | some n, some r => some ((f.offset, n) :: r)
    | _, _ => none
def zerosA (zero : List AV) (n : Nat) : List AV := (List.replicate n zero).flatten
def pPick (c a b : AV) : Option AV := match c with
  | .c (.bool t) => some (bif t then a else b)
  | _ => none
def pBin (op : BinOp) (t : TypeId) (x y : Operand) (a b : AV) : Option AV := match a, b with
  | .c u, .c v => (valS E.P (do eqGuard op t x y u v; binOp op t u v)).map .c
  | a, b => match op, E.P.underlying t with
    | .eql, some d => (eqA d a b).map fun r => .c (.bool r)
    | .neq, some d => (eqA d a b).map fun r => .c (.bool !r)
    | _, _ => none
def pUn (op : UnOp) : AV → Option AV
  | .c v => (valS E.P (Op.unary op v)).map .c
  | _ => none
def pConv (s d : TypeId) : AV → Option AV
  | .c v => (valS E.P (Go.convert s d v)).map .c
  | _ => none
def pFieldAddr (s f : Nat) (x : AV) : Option AV := match E.P.underlying s with
  | some (.struct fs) => match fs[f]? with
    | some fd => match szOf E fd.type, addrA E x with
      | some (_ + 1), some (i, o) => some (.p i (o + fd.offset))
      | _, _ => none
    | none => none
  | _ => none
def pField (t f : Nat) (x : AV) : Option AV := match E.P.underlying t with
  | some (.struct fs) => match fs[f]?, x with
    | some fd, .g l => partA E fd.type l fd.offset
    | some fd, .c (.agg cs) => partA E fd.type (cs.toList.map .c) fd.offset
    | _, _ => none
  | _ => none
def natA : AV → Option Nat
  | .c (.int _ (.ofNat n)) => some n
  | _ => none
def pIndexAddr (t : TypeId) (x ix : AV) : Option AV := match natA ix, E.P.underlying t with
  | some k, some (.slice e) => match x, szOf E e with
    | .s i o n _ _, some z => bif Nat.blt k n then some (.p i (o + k * z)) else none
    | _, _ => none
  | some k, some (.array n e) => match addrA E x, szOf E e with
    | some (i, o), some z => bif Nat.blt k n then some (.p i (o + k * z)) else none
    | _, _ => none
  | _, _ => none
def pIndex (t : TypeId) (x ix : AV) : Option AV := match x, ix with
  | .c u, .c v => (valS E.P (Instr.index t u v)).map .c
  | _, _ => none
def pExtract (x : AV) (i : Nat) : Option AV := match x with
  | .t l => l[i]?
  | .c (.tuple vs) => (vs[i]?).map .c
  | _ => none
def pNil : AV → Option AV
  | .p i o => some (.p i o)
  | .f k u l => some (.f k u l)
  | .c (.pointer (some a)) => some (.c (.pointer (some a)))
  | .c (.func (.func k) u l) => some (.c (.func (.func k) u l))
  | _ => none
/-- An operand that may lack. -/
def optA (ρ : Operand → AV) : Option Operand → Option (Option Value)
  | none => some none
  | some y => match ρ y with
    | .c u => some (some u)
    | _ => none
def pSlice (ρ : Operand → AV) (t : TypeId) (x : AV) (lo hi mx : Option Operand) : Option AV := match E.P.underlying t, x with
  | some (.slice e), .s i o n r c => bif hi.isNone && mx.isSome then none else match szOf E e, idxA ρ 0 lo, idxA ρ n hi, idxA ρ 0 mx with
    | some z, some l, some h, some m => sliceA z i o n r c l h (mx.map fun _ => m)
    | _, _, _, _ => none
  | some (.slice e), .y i o z c l => match szOf E e, idxA ρ 0 lo, idxA ρ 0 hi, mx with
    | some _, some 0, some 0, none => some (.y i o z c l)
    | _, _, _, _ => none
  | some _, .c v => match optA ρ lo, optA ρ hi, optA ρ mx with
    | some a, some b, some d => (valS E.P (Instr.sliceAt t v a b d)).map .c
    | _, _, _ => none
  | _, _ => none
def pBuild (ρ : Operand → AV) (t : TypeId) (parts : List (Nat × Operand)) : Option AV := match zeroV E t, E.P.underlying t with
  | some z, some (.struct fs) => match placesA E fs.toList with
    | some ps => (fillA (fun i => ps[i]?) ρ parts (z.cells.toList.map .c)).map .g
    | none => none
  | _, _ => none
def pLen (ty t : TypeId) (x : AV) : Option AV := match x, E.P.underlying t with
  | .s _ _ n _ _, some (.slice _) => some (.c (goInt n))
  | .z _, some (.slice _) => some (.c (goInt 0))
  | .y .., some (.slice _) => some (.c (goInt 0))
  | .c v, some _ => (valS E.P (Builtin.len_ #[t] ty #[v])).map .c
  | _, _ => none
def pCap (ty t : TypeId) (x : AV) : Option AV := match x, E.P.underlying t with
  | .s _ _ _ false c, some (.slice _) => some (.c (goInt c))
  | .c v, some _ => (valS E.P (Builtin.cap_ #[t] ty #[v])).map .c
  | _, _ => none
def pMin (ty : TypeId) (x y : AV) : Option AV := match x, y with
  | .c u, .c v => (valS E.P (Builtin.min_ #[] ty #[u, v])).map .c
  | _, _ => none
def pMax (ty : TypeId) (x y : AV) : Option AV := match x, y with
  | .c u, .c v => (valS E.P (Builtin.max_ #[] ty #[u, v])).map .c
  | _, _ => none
def pBuiltin (ty : TypeId) (b : Builtin) (xs : List AV) (ts : List TypeId) : Option AV := match b, xs, ts with
  | .len, [x], [t] => pLen E ty t x
  | .cap, [x], [t] => pCap E ty t x
  | .min, [x, y], _ => pMin E ty x y
  | .max, [x, y], _ => pMax E ty x y
  | _, _, _ => none
def evPure (ρ : Operand → AV) (ty : TypeId) : Op → Option AV
  | .move x => some (ρ x)
  | .assign x => some (ρ x)
  | .pick c a b => pPick (ρ c) (ρ a) (ρ b)
  | .binOp op t x y _ => pBin E op t x y (ρ x) (ρ y)
  | .unOp op _ x => pUn E op (ρ x)
  | .convert s d x => pConv E s d (ρ x)
  | .fieldAddr s x f => pFieldAddr E s f (ρ x)
  | .field t x f => pField E t f (ρ x)
  | .indexAddr t x ix => pIndexAddr E t (ρ x) (ρ ix)
  | .index t x ix => pIndex E t (ρ x) (ρ ix)
  | .extract x i => pExtract (ρ x) i
  | .makeFunc fn first cap => match fn with
    | .func f => some (.f f (first.toList.map ρ) (cap.toList.map ρ))
    | _ => none
  | .nilCheck x => pNil (ρ x)
  | .slice t x lo hi mx => pSlice E ρ t (ρ x) lo hi mx
  | .build t parts => pBuild E ρ t parts.toList
  | .call c => match c.callee with
    | .builtin b => pBuiltin E ty b (c.args.toList.map ρ) c.argTypes.toList
    | _ => none
  | _ => none
/-- Of a map: where a key is, and what it holds. -/
def findA (kind : TypeDesc) (k : Value) : List (Value × AV) → Nat → Option (Option (Nat × AV))
  | [], _ => some none
  | (key, v) :: es, i => match Instr.sameNow kind k key with
    | some true => some (some (i, v))
    | some false => findA kind k es (i + 1)
    | none => none
def bytesA : List AV → List UInt8 → Option (List UInt8)
  | [], acc => some acc.reverse
  | .c (.int .u8 n) :: l, acc => bytesA l (UInt8.ofNat n.toNat :: acc)
  | _ :: _, _ => none
def mapA (st : ES) : AV → Option (List (Value × AV))
  | .c (.map none) => some []
  | .m i => match st.h.get i with
    | some (.map es) => some es
    | _ => none
  | _ => none
def lLookup (st : ES) (t : TypeId) (x ix : AV) (ok : Bool) : Option AV := match E.P.underlying t, ix with
  | some (.map kt et), .c k => match E.P.underlying kt, zeroV E et, valS E.P (Instr.checkKey true 10000 kt k), valS E.P (Instr.checkKey false 10000 kt k) with
    | some kd, some z, some _, some _ =>
      match mapA st x with
      | none => none
      | some es => match findA kd k es 0 with
        | none => none
        | some none => some (bif ok then .t [.c z, .c (.bool false)] else .c z)
        | some (some (_, v)) => some (bif ok then .t [v, .c (.bool true)] else v)
    | _, _, _, _ => none
  | _, _ => none
def lConv (st : ES) (s d : TypeId) (x : AV) : Option AV := match E.P.underlying s, E.P.underlying d, x with
  | some (.slice e), some .string, .s i o n _ _ => match E.P.underlying e, rd st i o n with
    | some (.int .u8), some l => (bytesA l []).map fun bs => .c (.string ⟨bs.toArray⟩)
    | _, _ => none
  | _, _, _ => none
def lNext (st : ES) : AV → Option AV
  | .p i 0 => match st.h.get i with
    | some (.iter m) => match st.h.get m with
      | some (.map []) => some (.c (.tuple #[.bool false]))
      | _ => none
    | _ => none
  | _ => none
def lLen (st : ES) (t : TypeId) : AV → Option AV
  | .m i => match E.P.underlying t, st.h.get i with
    | some (.map _ _), some (.map es) => some (.c (goInt es.length))
    | _, _ => none
  | _ => none
def lBuiltin (st : ES) (b : Builtin) (xs : List AV) (ts : List TypeId) : Option AV := match b, xs, ts with
  | .len, [x], [t] => lLen E st t x
  | _, _, _ => none
def evLoad (st : ES) (ρ : Operand → AV) : Op → Option AV
  | .load t x => ldA E st t (ρ x)
  | .lookup t x ix ok => lLookup E st t (ρ x) (ρ ix) ok
  | .convert s d x => lConv E st s d (ρ x)
  | .next x b => bif b then none else lNext st (ρ x)
  | .call c => match c.callee with
    | .builtin b => lBuiltin E st b (c.args.toList.map ρ) c.argTypes.toList
    | _ => none
  | _ => none
/-- A new block under the name id, and its value. -/
def nMap (id : Nat) (t : TypeId) : AV → Option (AV × AO)
  | .c (.int _ _) => match E.P.underlying t with
    | some (.map _ _) => some (.m id, .map [])
    | _ => none
  | _ => none
def nSlice (id : Nat) (t : TypeId) (x y : AV) : Option (AV × AO) := match E.P.underlying t, natA x, natA y with
  | some (.slice e), some l, some c => match E.P.info? e with
    | some i => match i.zero with
      | some z => bif Nat.ble l c && (Nat.ble (c * i.bytes) 1000000000 && (Nat.ble c 1000000 && Nat.beq z.cells.toList.length i.size)) then some (.s id 0 l false c, .cells (zerosA (z.cells.toList.map .c) c) e false) else none
      | none => none
    | none => none
  | _, _, _ => none
def nRow (id : Nat) (ρ : Operand → AV) (t : TypeId) (n : Nat) (parts : List (Nat × Operand)) : Option (AV × AO) := match E.P.underlying t with
  | some (.slice e) => match E.P.info? e with
    | some i => match i.zero with
      | some z => bif Nat.ble (n * i.size) 1000000 && Nat.beq z.cells.toList.length i.size then
          (fillA (fun k => some (k * i.size, i.size)) ρ parts (zerosA (z.cells.toList.map .c) n)).map fun l => (.s id 0 n false n, .cells l e false)
        else none
      | none => none
    | none => none
  | _ => none
def evNew (ρ : Operand → AV) (id : Nat) : Op → Option (AV × AO)
  | .alloc e => (zeroV E e).map fun z => (.p id 0, .cells (z.cells.toList.map .c) e false)
  | .box e x => some (.p id 0, .cells (ρ x).cells e false)
  | .makeMap t r => match r with
    | none => some (.m id, .map [])
    | some x => nMap E id t (ρ x)
  | .makeSlice t x y => nSlice E id t (ρ x) (ρ y)
  | .buildSlice t n parts => nRow E id ρ t n parts.toList
  | _ => none
def newGrown (st : ES) (e : TypeId) (l : List AV) (n : Nat) : AV × ES := (.s st.x 0 n true 0, ⟨st.h.put st.x (some (.cells l e true)), st.x + 1⟩)
/-- What is appended: how many, which cells. -/
def moreA (st : ES) (z : Nat) : AV → Option (Nat × List AV)
  | .s i o n _ _ => (rd st i o (n * z)).map fun l => (n, l)
  | .z _ => some (0, [])
  | .y .. => some (0, [])
  | .c (.slice none 0 _) => some (0, [])
  | .c (.string b) => some (b.data.toList.length, b.data.toList.map fun x => .c (.int .u8 x.toNat))
  | _ => none
def appendA (st : ES) (e : TypeId) (z : Nat) (s : AV) (k : Nat) (l : List AV) : Option (AV × ES) :=
  match k, s with
  | 0, .s i o n r c => bif r || Nat.ble n c then some (.s i o n r c, st) else none
  | 0, .z i => some (.z i, st)
  | 0, .y i o e' c l => some (.y i o e' c l, st)
  | 0, .c (.slice none 0 0) => some (.c (.slice none 0 0), st)
  | _ + 1, .c (.slice none 0 0) => some (newGrown st e l k)
  | _ + 1, .s i o n false c =>
    bif Nat.ble (n + k) c then (wr st i (o + n * z) l).map fun st' => (.s i o (n + k) false c, st')
    else (rd st i o (n * z)).map fun l0 => newGrown st e (l0 ++ l) (n + k)
  | _ + 1, .s i o n true c => bif Nat.beq o (c * z) then
      match st.h.get i with
      | some (.cells l0 e' true) => bif Nat.beq e' e then
          (bif Nat.ble (o + (n + k) * z) l0.length then (wr st i (o + n * z) l).map fun st' => (.s i o (n + k) true c, st')
          else bif Nat.beq c 0 && (Nat.beq (n * z) l0.length && l.all AV.flat) then some (newGrown ⟨st.h.put i none, st.x⟩ e (l0 ++ l) (n + k)) else none)
        else none
      | _ => none
    else none
  | _, _ => none
def hStore (st : ES) (t : TypeId) (a x : AV) : Option (AV × ES) := match addrA E a, szOf E t with
  | some (i, o), some n => bif Nat.beq x.cells.length n then (wr st i o x.cells).map fun st' => (.c undef, st') else none
  | _, _ => none
def hUpdate (st : ES) (t : TypeId) (m k v : AV) : Option (AV × ES) := match E.P.underlying t, m, k with
  | some (.map kt _), .m i, .c key => match E.P.underlying kt, valS E.P (Instr.checkKey false 10000 kt key), st.h.get i with
    | some kd, some _, some (.map es) => match findA kd key es 0 with
      | none => none
      | some none => some (.c undef, ⟨st.h.put i (some (.map (es ++ [(key, v)]))), st.x⟩)
      | some (some (j, _)) => match es[j]? with
        | some (old, _) => bif Instr.sameBits 10000 old key then some (.c undef, ⟨st.h.put i (some (.map (es.set j (key, v)))), st.x⟩) else none
        | none => none
    | _, _, _ => none
  | _, _, _ => none
def hRange (st : ES) (t : TypeId) (x : AV) : Option (AV × ES) := match E.P.underlying t, x with
  | some (.map _ _), .m i => match st.h.get i with
    | some (.map _) => some (.p st.x 0, ⟨st.h.put st.x (some (.iter i)), st.x + 1⟩)
    | _ => none
  | _, _ => none
def hDelete (st : ES) (t : TypeId) (m k : AV) : Option (AV × ES) := match E.P.underlying t, m, k with
  | some (.map kt _), .m i, .c key => match E.P.underlying kt, valS E.P (Instr.checkKey true 10000 kt key), valS E.P (Instr.checkKey false 10000 kt key), st.h.get i with
    | some kd, some _, some _, some (.map es) => match findA kd key es 0 with
      | none => none
      | some none => some (.c undef, ⟨st.h.put i (some (.map es)), st.x⟩)
      | some (some (j, _)) => some (.c undef, ⟨st.h.put i (some (.map (es.eraseIdx j))), st.x⟩)
    | _, _, _, _ => none
  | _, _, _ => none
def lenA : AV → Nat
  | .s _ _ n _ _ => n
  | _ => 0
def hAppend (st : ES) (t u : TypeId) (s x : AV) : Option (AV × ES) := match E.P.underlying t, E.P.underlying u with
  | some (.slice e), some d => match E.P.info? e with
    | some i => match i.zero with
      | some z =>
        bif Nat.beq z.cells.toList.length i.size && (Nat.ble 1 i.size && Nat.ble i.bytes 10000) then
          match d with
          | .int _ => match natA x with
            | some k => bif Nat.ble (lenA s + k) 1000000 then appendA st e i.size s k (zerosA (z.cells.toList.map .c) k) else none
            | none => none
          | _ => match moreA st i.size x with
            | some (k, l) => bif Nat.ble (lenA s + k) 1000000 && Nat.beq l.length (k * i.size) then appendA st e i.size s k l else none
            | none => none
        else none
      | none => none
    | none => none
  | _, _ => none
def hCopy (st : ES) (t : TypeId) (d s : AV) : Option (AV × ES) := match E.P.underlying t, d with
  | some (.slice e), .s i o n _ _ => match szOf E e with
    | some z => match s with
      | .s j p m _ _ => match rd st j p (Nat.min m n * z) with
        | some l => (wr st i o l).map fun st' => (.c (goInt (Nat.min m n)), st')
        | none => none
      | .c (.slice none 0 _) => some (.c (goInt 0), st)
      | .z _ => some (.c (goInt 0), st)
      | .y .. => some (.c (goInt 0), st)
      | _ => none
    | none => none
  | _, _ => none
def hClear (st : ES) (t : TypeId) (x : AV) : Option (AV × ES) := match E.P.underlying t, x with
  | some (.map _ _), .m i => match st.h.get i with
    | some (.map _) => some (.c undef, ⟨st.h.put i (some (.map [])), st.x⟩)
    | _ => none
  | some (.slice e), .s i o n _ _ => bif Nat.beq n 0 then some (.c undef, st) else match zeroV E e with
    | some z => (wr st i o (zerosA (z.cells.toList.map .c) n)).map fun st' => (.c undef, st')
    | none => none
  | some (.slice _), .c (.slice none _ _) => some (.c undef, st)
  | some (.slice _), .z _ => some (.c undef, st)
  | some (.slice _), .y .. => some (.c undef, st)
  | _, _ => none
def hBuiltin (st : ES) (b : Builtin) (xs : List AV) (ts : List TypeId) : Option (AV × ES) := match b, xs, ts with
  | .append, [s, x], [t, u] => hAppend E st t u s x
  | .copy, [d, s], t :: _ => hCopy E st t d s
  | .clear, [x], [t] => hClear E st t x
  | .delete, [m, k], t :: _ => hDelete E st t m k
  | _, _, _ => none
def evHeavy (st : ES) (ρ : Operand → AV) : Op → Option (AV × ES)
  | .store t a x => hStore E st t (ρ a) (ρ x)
  | .mapUpdate t m k v => hUpdate E st t (ρ m) (ρ k) (ρ v)
  | .insert t m k v => hUpdate E st t (ρ m) (ρ k) (ρ v)
  | .range t x => hRange E st t (ρ x)
  | .call c => match c.callee with
    | .builtin b => hBuiltin E st b (c.args.toList.map ρ) c.argTypes.toList
    | _ => none
  | _ => none
/-- An operation that calls nothing. -/
def evOp (ρ : Operand → AV) (ty : TypeId) (st : ES) (op : Op) : Option (AV × ES) :=
  match evPure E ρ ty op with
  | some v => some (v, st)
  | none => match evLoad E st ρ op with
    | some v => some (v, st)
    | none => bif Nat.blt st.x 1000000000 then (match evNew E ρ st.x op with
      | some (v, ob) => some (v, ⟨st.h.put st.x (some ob), st.x + 1⟩)
      | none => evHeavy E st ρ op) else none
/-- Whom a call calls, with what. -/
def funcA (f : AV) (args : List AV) : Option (Nat × List AV) := match f with
  | .f k first caps => some (k, first ++ (args ++ caps))
  | .c (.func (.func k) first caps) => some (k, first.toList.map .c ++ (args ++ caps.toList.map .c))
  | _ => none
def calledA (ρ : Operand → AV) : Op → Option (Nat × List AV)
  | .call c => match c.callee with
    | .value f => funcA (ρ f) (c.args.toList.map ρ)
    | _ => none
  | _ => none
def putA (n : Nat) (tm : Tr AV) (dst : Option Tmp) (v : AV) : Option (Tr AV) := match dst with
  | none => some tm
  | some d => bif Nat.blt d n then some (tm.put d (some v)) else none
def yieldA (ops : Array Oper) (tm : Tr AV) (j : Nat) : Option Bool := match (ops[j]?).bind (·.dst) with
  | none => none
  | some t => match tm.get t with
    | some (.c (.bool b)) => some b
    | _ => none
inductive AX where
  | normal
  | exit (id : Nat)
  | goto (l : Nat)
  | ret
def opsA (exec : (Operand → AV) → TypeId → ES → Op → Option (AV × ES)) (ops : Array Oper) (n : Nat) : List Oper → Tr AV → ES → Option (Tr AV × ES)
  | [], tm, st => some (tm, st)
  | o :: rest, tm, st =>
    bif Region.wanted o (yieldA ops tm) then match exec (aev tm) o.type st o.op with
      | none => none
      | some (v, st') => match putA n tm o.dst v with
        | none => none
        | some tm' => opsA exec ops n rest tm' st'
    else match putA n tm o.dst (.c undef) with
      | none => none
      | some tm' => opsA exec ops n rest tm' st
def initA : List AV → Nat → Tr AV → Tr AV
  | [], _, tm => tm
  | v :: l, k, tm => initA l (k + 1) (tm.put k (some v))
def resA (st : ES) (tm : Tr AV) : List ResultVar → Option (List AV)
  | [] => some []
  | .tmp t :: rest => (resA st tm rest).map (aev tm (.tmp t) :: ·)
  | .cell a t :: rest => match ldA E st t (aev tm (.tmp a)), resA st tm rest with
    | some v, some r => some (v :: r)
    | _, _ => none
def resultA (fn : Func) (st : ES) (tm : Tr AV) : Option AV := match resA E st tm fn.results.toList with
  | none => none
  | some [v] => some v
  | some l => some (.t l)
def enterA (fn : Func) (run : Nat → Code → Tr AV → ES → Option (AX × Tr AV × ES)) (args : List AV) (st : ES) : Option (AV × ES) := match fn.body with
  | none => none
  | some c => bif Nat.ble args.length fn.ntmps && Nat.ble fn.ntmps 1000000 then match run fn.ntmps c (initA args 0 .e) st with
      | some (.normal, tm, st') => (resultA E fn st' tm).map fun v => (v, st')
      | some (.ret, tm, st') => (resultA E fn st' tm).map fun v => (v, st')
      | _ => none
    else none
def callA (run : Nat → Code → Tr AV → ES → Option (AX × Tr AV × ES)) (f : Nat) (args : List AV) (st : ES) : Option (AV × ES) := match E.ov f args st with
  | some r => r
  | none => match E.P.funcs[f]? with
    | none => none
    | some fn => enterA E fn run args st
def execA (call : Nat → List AV → ES → Option (AV × ES)) (ρ : Operand → AV) (ty : TypeId) (st : ES) (op : Op) : Option (AV × ES) :=
  match calledA ρ op with
  | some (f, args) => call f args st
  | none => evOp E ρ ty st op
/-! ### Regions that draw their order -/
def eqvV : Value → Value → Bool
  | .bool a, .bool b => a == b
  | .int .i64 a, .int .i64 b => a == b
  | .int .u64 a, .int .u64 b => a == b
  | .slice none a c, .slice none b d => Nat.beq a b && Nat.beq c d
  | .pointer none, .pointer none => true
  | .map none, .map none => true
  | .string a, .string b => a.data.toList == b.data.toList
  | _, _ => false
mutual
def eqvA : AV → AV → Bool
  | .c a, .c b => eqvV a b
  | .p i o, .p j q => Nat.beq i j && Nat.beq o q
  | .s i o n r c, .s j q m t d => Nat.beq i j && (Nat.beq o q && (Nat.beq n m && ((r == t) && Nat.beq c d)))
  | .z i, .z j => Nat.beq i j
  | .m i, .m j => Nat.beq i j
  | .g l, .g k => eqvL l k
  | _, _ => false
def eqvL : List AV → List AV → Bool
  | [], [] => true
  | x :: l, y :: k => eqvA x y && eqvL l k
  | _, _ => false
end
def sameO (a : Option AV) (v : AV) : Bool := match a with
  | some u => eqvA u v
  | none => false
def ancB (anc : Array Nat) (i j : Nat) : Bool := (anc.getD i 0).testBit j
/-- The operations wait for each other as told; those that don't stand apart. -/
def staticB (ops : Array Oper) (anc : Array Nat) : Bool :=
  ops.toList.zipIdx.all fun (o, i) =>
    (o.after.toList.all fun e => !Region.binds .any e || (Nat.blt e.on i && ancB anc i e.on)) &&
    ((List.range ops.size).all fun j => !ancB anc i j || (Nat.blt j i && o.after.toList.any fun e => Region.binds .any e && (Nat.beq e.on j || ancB anc e.on j))) &&
    (ops.toList.zipIdx.all fun (q, j) => !Nat.blt j i || ((ancB anc i j || q.apart ops o) && (o.dst.isNone || o.dst != q.dst)))
/-- The new blocks of a region that mask m names. -/
def addN (x0 : Nat) (m : Nat → Bool) (T : ES) : List (Nat × AO) → ES
  | [] => T
  | (j, ob) :: r => let T' := addN x0 m T r
    bif m j then ⟨T'.h.put (x0 + j) (some ob), T'.x⟩ else T'
def drawA (call : Nat → List AV → ES → Option (AV × ES)) (ops : Array Oper) (n x0 : Nat) (anc : Array Nat) : List Oper → Nat → Tr AV → ES → List (Nat × AO) → List (Nat × Tr AV × Op × AV) → List (Nat × ES) → Option (Tr AV × ES)
  | [], _, tm, T, nw, _, _ => some (tm, addN x0 (fun _ => true) T nw)
  | o :: rest, i, tm, T, nw, ld, hs =>
    bif Region.wanted o (yieldA ops tm) then
      match evPure E (aev tm) o.type o.op with
      | some v => match putA n tm o.dst v with
        | none => none
        | some tm' => drawA call ops n x0 anc rest (i + 1) tm' T nw ld hs
      | none => match evLoad E (addN x0 (ancB anc i) T nw) (aev tm) o.op with
        | some v => bif hs.all fun (j, Tb) => ancB anc i j || sameO (evLoad E Tb (aev tm) o.op) v then match putA n tm o.dst v with
            | none => none
            | some tm' => drawA call ops n x0 anc rest (i + 1) tm' T nw ((i, tm, o.op, v) :: ld) hs
          else none
        | none => match evNew E (aev tm) (x0 + i) o.op with
          | some (v, ob) => match putA n tm o.dst v with
            | none => none
            | some tm' => drawA call ops n x0 anc rest (i + 1) tm' T ((i, ob) :: nw) ld hs
          | none => match execA E call (aev tm) o.type (addN x0 (ancB anc i) T nw) o.op with
            | none => none
            | some (v, T') => bif (hs.all fun (j, _) => ancB anc i j) && (ld.all fun (k, tk, op, u) => ancB anc i k || sameO (evLoad E T' (aev tk) op) u) then match putA n tm o.dst v with
                | none => none
                | some tm' => drawA call ops n x0 anc rest (i + 1) tm' T' (nw.filter fun (j, _) => !ancB anc i j) ld ((i, T) :: hs)
              else none
    else match putA n tm o.dst (.c undef) with
      | none => none
      | some tm' => drawA call ops n x0 anc rest (i + 1) tm' T nw ld hs
def regionA (call : Nat → List AV → ES → Option (AV × ES)) (ops : Array Oper) (n : Nat) (tm : Tr AV) (st : ES) : Option (Tr AV × ES) :=
  bif staticB ops (Region.before ops) && Nat.ble (st.x + ops.size) 1000000000 then drawA E call ops n st.x (Region.before ops) ops.toList 0 tm ⟨st.h, st.x + ops.size⟩ [] [] [] else none
/-- Code, or (sc) code within a scope. -/
def ev : Nat → Nat → Option Code → Code → Tr AV → ES → Option (AX × Tr AV × ES)
  | 0, _, _, _, _, _ => none
  | k + 1, n, some s, c, tm, st => match ev k n none c tm st with
    | some (.goto l, tm', st') => match findLabel s l with
      | some rest => ev k n (some s) rest tm' st'
      | none => some (.goto l, tm', st')
    | r => r
  | k + 1, n, none, c, tm, st => match c with
    | .skip => some (.normal, tm, st)
    | .label _ => some (.normal, tm, st)
    | .ret => some (.ret, tm, st)
    | .exit id => some (.exit id, tm, st)
    | .goto l => some (.goto l, tm, st)
    | .scope a => ev k n (some a) a tm st
    | .seq a b => match ev k n none a tm st with
      | some (.normal, tm', st') => ev k n none b tm' st'
      | r => r
    | .cond x a b => match aev tm x with
      | .c (.bool true) => ev k n none a tm st
      | .c (.bool false) => ev k n none b tm st
      | _ => none
    | .block id a => match ev k n none a tm st with
      | some (.exit j, tm', st') => some (bif Nat.beq j id then .normal else .exit j, tm', st')
      | r => r
    | .loop a => match ev k n none a tm st with
      | some (.normal, tm', st') => ev k n none (.loop a) tm' st'
      | r => r
    | .region _ ops d => match (match d with
        | true => regionA E (callA E fun m c => ev k m none c) ops n tm st
        | false => opsA (execA E (callA E fun m c => ev k m none c)) ops n ops.toList tm st) with
      | none => none
      | some (tm', st') => some (.normal, tm', st')
    | _ => none
end
end
end Go.Proofs.YtgpgmmkkmoecmaaGreatDoor

/- Closed calls, evaluated: operations that only compute. Plain lemmas over the model; no program. -/
namespace Go.Proofs.YtgpgmmkkmoecmaaGreatDoor
open Go

theorem valS_run {α : Type} {P : Program} (w : World) {s : Sem α} : ∀ {a : α}, valS P s = some a → s.run P w = .ok a w := by
  induction s with
  | pure b => intro a h; simp only [valS, Option.some.injEq] at h; subst h; rfl
  | program k ih => intro a h; exact ih P h
  | mark _ k ih => intro a h; exact ih h
  | _ => intro a h; simp [valS] at h
section
variable {E : Ev} {γ : Nm} {w : World}
theorem run_sz {t : TypeId} {n : Nat} (h : szOf E t = some n) (w : World) : (sizeOf t).run E.P w = .ok n w := by
  simp only [szOf, Option.map_eq_some_iff] at h
  obtain ⟨i, hi, rfl⟩ := h
  simp [sizeOf, typeInfo, hi]
theorem run_agg {t : TypeId} {b : Bool} (h : aggB E t = some b) (w : World) : (isAgg t).run E.P w = .ok b w := by
  unfold aggB at h
  unfold isAgg
  cases hu : E.P.underlying t with
  | none => rw [hu] at h; simp at h
  | some d =>
    rw [hu] at h
    simp only [Sem.run_bind, run_underlying hu, Result.andThen_ok]
    cases d <;> simp_all
theorem run_zero {t : TypeId} {z : Value} (h : zeroV E t = some z) (w : World) : (zeroValue t).run E.P w = .ok z w := by
  simp only [zeroV, Option.bind_eq_some_iff] at h
  obtain ⟨i, hi, hz⟩ := h
  simp [zeroValue, typeInfo, hi, hz]
theorem run_info {t : TypeId} {i : TypeInfo} (h : E.P.info? t = some i) (w : World) : (typeInfo t).run E.P w = .ok i w := by simp [typeInfo, h]
/-- Names below G are the package variables. -/
def Glob (E : Ev) (γ : Nm) : Prop := ∀ g, g < E.G → ∃ k nl, γ g = some ⟨g, 0, k, nl⟩
theorem addr_ok (hg : Glob E γ) {x : AV} {i o : Nat} {v : Value} (h : addrA E x = some (i, o)) (hv : conc γ x = some v) : ∃ bk, γ i = some bk ∧ v = .pointer (some ⟨bk.b, bk.o + o, none⟩) := by
  unfold addrA at h
  split at h
  · simp only [Option.some.injEq, Prod.mk.injEq] at h
    obtain ⟨rfl, rfl⟩ := h
    simp only [conc, Option.map_eq_some_iff] at hv
    obtain ⟨bk, hb, rfl⟩ := hv
    exact ⟨bk, hb, rfl⟩
  · rename_i b o'
    cases hb : Nat.blt b E.G with
    | false => rw [hb] at h; simp at h
    | true =>
      rw [hb] at h
      simp only [cond_true, Option.some.injEq, Prod.mk.injEq] at h
      obtain ⟨rfl, rfl⟩ := h
      simp only [conc, Option.some.injEq] at hv
      have : b < E.G := Nat.le_of_ble_eq_true hb
      obtain ⟨k, nl, hk⟩ := hg b this
      exact ⟨_, hk, by rw [← hv]; simp⟩
  · simp at h
theorem part_ok {t : TypeId} {l : List AV} {cs : List Value} {o : Nat} {x : AV} (h : partA E t l o = some x) (hl : concL γ l = some cs) (w : World) : ∃ v, (part t cs.toArray o).run E.P w = .ok v w ∧ conc γ x = some v := by
  unfold partA at h
  unfold part
  cases ha : aggB E t with
  | none => rw [ha] at h; simp at h
  | some b =>
    simp only [Sem.run_bind, run_agg ha, Result.andThen_ok]
    cases b with
    | true =>
      cases hs : szOf E t with
      | none => rw [ha, hs] at h; simp at h
      | some n =>
        rw [ha, hs] at h
        simp only at h
        cases hb : Nat.ble (o + n) l.length with
        | false => rw [hb] at h; simp at h
        | true =>
          rw [hb] at h
          simp only [cond_true, Option.some.injEq] at h
          subst h
          refine ⟨.agg (cs.toArray.extract o (o + n)), by simp [run_sz hs], ?_⟩
          have := concL_take n (concL_drop o hl)
          simp only [conc, this, Option.map_some, Option.some.injEq, Value.agg.injEq]
          apply Array.toList_inj.1
          simp
    | false =>
      rw [ha] at h
      simp only at h
      have := concL_get hl o
      rw [h] at this
      simp only [Option.bind_some] at this
      cases hx : conc γ x with
      | none =>
        rw [hx] at this
        have h1 := (List.getElem?_eq_some_iff.1 h).1
        have h2 := List.getElem?_eq_none_iff.1 this
        rw [concL_len hl] at h2
        omega
      | some v =>
        rw [hx] at this
        exact ⟨v, by simp [this], rfl⟩
theorem conc_p {i o : Nat} {v : Value} (h : conc γ (.p i o) = some v) : ∃ bk, γ i = some bk ∧ v = .pointer (some ⟨bk.b, bk.o + o, none⟩) := by
  simp only [conc, Option.map_eq_some_iff] at h
  obtain ⟨bk, hb, rfl⟩ := h
  exact ⟨bk, hb, rfl⟩
theorem conc_s {i o n c : Nat} {r : Bool} {v : Value} (h : conc γ (.s i o n r c) = some v) : ∃ bk, γ i = some bk ∧ v = .slice (some ⟨bk.b, bk.o + o, none⟩) n (bif r then bk.k - c else c) ∧ (r = true → n + c ≤ bk.k) := by
  simp only [conc, Option.bind_eq_some_iff] at h
  obtain ⟨bk, hb, e⟩ := h
  refine ⟨bk, hb, ?_⟩
  cases r with
  | false => simp at e; exact ⟨by simp [← e], fun h => by cases h⟩
  | true =>
    cases hlt : Nat.blt bk.k (n + c) with
    | true => simp [hlt] at e
    | false =>
      simp [hlt] at e
      refine ⟨by simp [← e], fun _ => ?_⟩
      have : ¬ bk.k < n + c := fun h => by rw [show Nat.blt bk.k (n + c) = true from Nat.ble_eq_true_of_le h] at hlt; cases hlt
      omega
theorem conc_s_mk {i o n c : Nat} {r : Bool} {bk : Bk} (hb : γ i = some bk) (hr : r = true → n + c ≤ bk.k) : conc γ (.s i o n r c) = some (.slice (some ⟨bk.b, bk.o + o, none⟩) n (bif r then bk.k - c else c)) := by
  simp only [conc, hb, Option.bind_some]
  cases r with
  | false => simp
  | true =>
    have := hr rfl
    have hlt : Nat.blt bk.k (n + c) = false := Bool.eq_false_iff.2 fun h => by have := Nat.le_of_ble_eq_true h; omega
    simp [hlt]
theorem conc_z {i : Nat} {v : Value} (h : conc γ (.z i) = some v) : ∃ bk, γ i = some bk ∧ v = .slice bk.nl 0 bk.k := by
  simp only [conc, Option.map_eq_some_iff] at h
  obtain ⟨bk, hb, rfl⟩ := h
  exact ⟨bk, hb, rfl⟩
theorem conc_y {i o e c l : Nat} {v : Value} (h : conc γ (.y i o e c l) = some v) : ∃ bk, γ i = some bk ∧ v = .slice (some ⟨bk.b, bk.o + (if bk.k - c = l then o else o + l * e), none⟩) 0 (bk.k - c - l) ∧ c + l ≤ bk.k := by
  simp only [conc, Option.bind_eq_some_iff] at h
  obtain ⟨bk, hb, e⟩ := h
  refine ⟨bk, hb, ?_⟩
  cases hlt : Nat.blt bk.k (c + l) with
  | true => simp [hlt] at e
  | false =>
    simp [hlt] at e
    refine ⟨by simp [← e], ?_⟩
    have : ¬ bk.k < c + l := fun h => by rw [show Nat.blt bk.k (c + l) = true from Nat.ble_eq_true_of_le h] at hlt; cases hlt
    omega
theorem conc_m {i : Nat} {v : Value} (h : conc γ (.m i) = some v) : ∃ bk, γ i = some bk ∧ v = .map (some bk.b) := by
  simp only [conc, Option.map_eq_some_iff] at h
  obtain ⟨bk, hb, rfl⟩ := h
  exact ⟨bk, hb, rfl⟩
theorem conc_c {u v : Value} (h : conc γ (.c u) = some v) : v = u := by simp only [conc, Option.some.injEq] at h; exact h.symm
theorem eqIn_ok {d : TypeDesc} {t : TypeId} (hd : E.P.underlying t = some d) {x y : AV} {b : Bool} (h : eqA d x y = some b) {u v : Value} (hx : conc γ x = some u) (hy : conc γ y = some v) (w : World) :
    (Op.equal t u v).run E.P w = .ok b w ∧ ∀ op a c, (eqGuard op t a c u v).run E.P w = .ok () w := by
  have key : ∀ k, (Op.equalIn (k + 1) t u v).run E.P w = .ok b w ∧ ∀ op a c, (eqGuard op t a c u v).run E.P w = .ok () w := by
    intro k
    unfold eqA at h
    split at h <;> first | (simp only [Option.some.injEq] at h; subst h) | (simp at h; done)
    · obtain ⟨bk, _, rfl⟩ := conc_p hx; cases conc_c hy
      exact ⟨by simp [Op.equalIn, run_underlying hd], fun op a c => by cases op <;> simp [eqGuard]⟩
    · obtain ⟨bk, _, rfl⟩ := conc_p hy; cases conc_c hx
      exact ⟨by simp [Op.equalIn, run_underlying hd], fun op a c => by cases op <;> simp [eqGuard]⟩
    · obtain ⟨bk, _, rfl, _⟩ := conc_s hx; cases conc_c hy
      exact ⟨by simp [Op.equalIn, run_underlying hd], fun op a c => by cases op <;> simp [eqGuard]⟩
    · obtain ⟨bk, _, rfl, _⟩ := conc_y hx; cases conc_c hy
      exact ⟨by simp [Op.equalIn, run_underlying hd], fun op a c => by cases op <;> simp [eqGuard]⟩
    · obtain ⟨bk, _, rfl, _⟩ := conc_s hy; cases conc_c hx
      exact ⟨by simp [Op.equalIn, run_underlying hd], fun op a c => by cases op <;> simp [eqGuard]⟩
    · obtain ⟨bk, _, rfl⟩ := conc_m hx; cases conc_c hy
      exact ⟨by simp [Op.equalIn, run_underlying hd], fun op a c => by cases op <;> simp [eqGuard]⟩
    · obtain ⟨bk, _, rfl⟩ := conc_m hy; cases conc_c hx
      exact ⟨by simp [Op.equalIn, run_underlying hd], fun op a c => by cases op <;> simp [eqGuard]⟩
    · obtain ⟨us, vs, _, _, rfl⟩ := conc_func hx; cases conc_c hy
      exact ⟨by simp [Op.equalIn, run_underlying hd], fun op a c => by cases op <;> simp [eqGuard]⟩
    · obtain ⟨us, vs, _, _, rfl⟩ := conc_func hy; cases conc_c hx
      exact ⟨by simp [Op.equalIn, run_underlying hd], fun op a c => by cases op <;> simp [eqGuard]⟩
  exact key 9999
theorem conc_sz {x : AV} {u : Value} (h : conc γ x = some u) : (∀ v, x ≠ .c v) → (∀ k n, u ≠ .int k n) ∧ (∀ s, u ≠ .string s) ∧ (∀ k n, u ≠ .float k n) ∧ (∀ k n m, u ≠ .complex k n m) ∧ (∀ b, u ≠ .bool b) := by
  intro hc
  cases x with
  | c v => exact absurd rfl (hc v)
  | p i o => obtain ⟨bk, _, rfl⟩ := conc_p h; simp
  | s i o n r c => obtain ⟨bk, _, rfl, _⟩ := conc_s h; simp
  | z i => obtain ⟨bk, _, rfl⟩ := conc_z h; simp
  | y i o e c l => obtain ⟨bk, _, rfl, _⟩ := conc_y h; simp
  | m i => obtain ⟨bk, _, rfl⟩ := conc_m h; simp
  | g l => simp only [conc, Option.map_eq_some_iff] at h; obtain ⟨a, _, rfl⟩ := h; simp
  | t l => simp only [conc, Option.map_eq_some_iff] at h; obtain ⟨a, _, rfl⟩ := h; simp
  | f k u l => obtain ⟨us, vs, _, _, rfl⟩ := conc_func h; simp
theorem bin_ok {op : BinOp} {t : TypeId} {x y : Operand} {a b r : AV} {u v : Value} (h : pBin E op t x y a b = some r) (ha : conc γ a = some u) (hb : conc γ b = some v) (w : World) :
    ∃ q, ((do eqGuard op t x y u v; binOp op t u v : Sem Value)).run E.P w = .ok q w ∧ conc γ r = some q := by
  unfold pBin at h
  split at h
  · cases conc_c ha; cases conc_c hb
    simp only [Option.map_eq_some_iff] at h
    obtain ⟨q, hq, rfl⟩ := h
    exact ⟨q, valS_run w hq, rfl⟩
  · rename_i hne
    cases hd : E.P.underlying t with
    | none => rw [hd] at h; cases op <;> simp at h
    | some d =>
      rw [hd] at h
      have key : ∀ q, eqA d a b = some q → (∀ k n k' n', ¬ (u = .int k n ∧ v = .int k' n')) ∧ (∀ s s', ¬ (u = .string s ∧ v = .string s')) ∧ (∀ k n k' n', ¬ (u = .float k n ∧ v = .float k' n')) ∧ (∀ k n m k' n' m', ¬ (u = .complex k n m ∧ v = .complex k' n' m')) := by
        intro q _
        by_cases hac : ∃ c, a = .c c
        · obtain ⟨c, rfl⟩ := hac
          have := conc_sz hb (fun c' e => hne c c' rfl e)
          exact ⟨fun k n k' n' h => this.1 _ _ h.2, fun s s' h => this.2.1 _ h.2, fun k n k' n' h => this.2.2.1 _ _ h.2, fun k n m k' n' m' h => this.2.2.2.1 _ _ _ h.2⟩
        · have := conc_sz ha (fun c' e => hac ⟨c', e⟩)
          exact ⟨fun k n k' n' h => this.1 _ _ h.1, fun s s' h => this.2.1 _ h.1, fun k n k' n' h => this.2.2.1 _ _ h.1, fun k n m k' n' m' h => this.2.2.2.1 _ _ _ h.1⟩
      cases op <;> simp only [Option.map_eq_some_iff] at h <;> try (simp at h; done)
      · obtain ⟨q, hq, rfl⟩ := h
        obtain ⟨h1, h2⟩ := eqIn_ok hd hq ha hb w
        obtain ⟨k1, k2, k3, k4⟩ := key q hq
        refine ⟨.bool q, ?_, rfl⟩
        have hbo : binOp .eql t u v = (do pure (.bool (← Op.equal t u v)) : Sem Value) := by
          unfold binOp
          split <;> first | exact absurd ⟨rfl, rfl⟩ (k1 _ _ _ _) | exact absurd ⟨rfl, rfl⟩ (k2 _ _) | exact absurd ⟨rfl, rfl⟩ (k3 _ _ _ _) | exact absurd ⟨rfl, rfl⟩ (k4 _ _ _ _ _ _) | rfl | simp_all
        simp only [Sem.run_bind, h2, Result.andThen_ok, hbo, h1, Sem.run_pure]
      · obtain ⟨q, hq, rfl⟩ := h
        obtain ⟨h1, h2⟩ := eqIn_ok hd hq ha hb w
        obtain ⟨k1, k2, k3, k4⟩ := key q hq
        refine ⟨.bool !q, ?_, rfl⟩
        have hbo : binOp .neq t u v = (do pure (.bool (!(← Op.equal t u v))) : Sem Value) := by
          unfold binOp
          split <;> first | exact absurd ⟨rfl, rfl⟩ (k1 _ _ _ _) | exact absurd ⟨rfl, rfl⟩ (k2 _ _) | exact absurd ⟨rfl, rfl⟩ (k3 _ _ _ _) | exact absurd ⟨rfl, rfl⟩ (k4 _ _ _ _ _ _) | rfl | simp_all
        simp only [Sem.run_bind, h2, Result.andThen_ok, hbo, h1, Sem.run_pure]
theorem ble_le {a b : Nat} (h : Nat.ble a b = true) : a ≤ b := Nat.le_of_ble_eq_true h
theorem blt_lt {a b : Nat} (h : Nat.blt a b = true) : a < b := Nat.le_of_ble_eq_true h
theorem nat_ok {x : AV} {n : Nat} {v : Value} (h : natA x = some n) (hv : conc γ x = some v) : ∃ k, v = .int k n := by
  unfold natA at h
  split at h
  · simp only [Option.some.injEq] at h; subst h
    exact ⟨_, conc_c hv⟩
  · simp at h
theorem fieldAddr_ok (hg : Glob E γ) {s f : Nat} {x r : AV} {v : Value} (h : pFieldAddr E s f x = some r) (hv : conc γ x = some v) (w : World) : ∃ q, (Instr.fieldAt s v f).run E.P w = .ok q w ∧ conc γ r = some q := by
  unfold pFieldAddr at h
  split at h
  case h_2 => simp at h
  rename_i fs hu
  split at h
  case h_2 => simp at h
  rename_i fd hf
  split at h
  case h_2 => simp at h
  rename_i n i o hs ha
  simp only [Option.some.injEq] at h
  subst h
  obtain ⟨bk, hb, rfl⟩ := addr_ok hg ha hv
  refine ⟨.pointer (some ⟨bk.b, bk.o + (o + fd.offset), none⟩), ?_, by simp [conc, hb]⟩
  simp [Instr.fieldAt, run_underlying hu, hf, Instr.sureAddr, fieldPlace, run_sz hs, Addr.add_lit, Nat.add_assoc]
theorem field_ok {t f : Nat} {x r : AV} {v : Value} (h : pField E t f x = some r) (hv : conc γ x = some v) (w : World) : ∃ q, (Instr.field t v f).run E.P w = .ok q w ∧ conc γ r = some q := by
  unfold pField at h
  split at h
  case h_2 => simp at h
  rename_i fs hu
  split at h
  · rename_i fd l hf
    simp only [conc, Option.map_eq_some_iff] at hv
    obtain ⟨cs, hc, rfl⟩ := hv
    obtain ⟨q, h1, h2⟩ := part_ok h hc w
    exact ⟨q, by simp [Instr.field, run_underlying hu, hf, asAgg, h1], h2⟩
  · rename_i fd cs hf
    cases conc_c hv
    obtain ⟨q, h1, h2⟩ := part_ok h (concL_c cs.toList) w
    exact ⟨q, by simp only [Array.toArray_toList] at h1; simp [Instr.field, run_underlying hu, hf, asAgg, h1], h2⟩
  · simp at h
theorem indexAddr_ok (hg : Glob E γ) {t : Nat} {x ix r : AV} {v j : Value} (h : pIndexAddr E t x ix = some r) (hv : conc γ x = some v) (hj : conc γ ix = some j) (w : World) : ∃ q, (Instr.indexAt t v j).run E.P w = .ok q w ∧ conc γ r = some q := by
  unfold pIndexAddr at h
  split at h
  · rename_i k e hk hu
    obtain ⟨ik, rfl⟩ := nat_ok hk hj
    split at h
    case h_2 => simp at h
    rename_i i o n _ _ z hs
    cases hb : Nat.blt k n with
    | false => rw [hb] at h; simp at h
    | true =>
      rw [hb] at h
      simp only [cond_true, Option.some.injEq] at h
      subst h
      have hlt := blt_lt hb
      obtain ⟨bk, hbk, rfl, _⟩ := conc_s hv
      refine ⟨.pointer (some ⟨bk.b, bk.o + (o + k * z), none⟩), ?_, by simp [conc, hbk]⟩
      simp [Instr.indexAt, asIntOf, run_underlying hu, hlt, run_sz hs, Addr.add_lit, Nat.add_assoc]
  · rename_i k n e hk hu
    obtain ⟨ik, rfl⟩ := nat_ok hk hj
    split at h
    case h_2 => simp at h
    rename_i i o z ha hs
    cases hb : Nat.blt k n with
    | false => rw [hb] at h; simp at h
    | true =>
      rw [hb] at h
      simp only [cond_true, Option.some.injEq] at h
      subst h
      have hlt := blt_lt hb
      obtain ⟨bk, hbk, rfl⟩ := addr_ok hg ha hv
      refine ⟨.pointer (some ⟨bk.b, bk.o + (o + k * z), none⟩), ?_, by simp [conc, hbk]⟩
      simp [Instr.indexAt, asIntOf, run_underlying hu, Instr.sureAddr, hlt, run_sz hs, Addr.add_lit, Nat.add_assoc]
  · simp at h
theorem index_ok {t : Nat} {x ix r : AV} {v j : Value} (h : pIndex E t x ix = some r) (hv : conc γ x = some v) (hj : conc γ ix = some j) (w : World) : ∃ q, (Instr.index t v j).run E.P w = .ok q w ∧ conc γ r = some q := by
  unfold pIndex at h
  split at h
  case h_2 => simp at h
  cases conc_c hv; cases conc_c hj
  simp only [Option.map_eq_some_iff] at h
  obtain ⟨q, hq, rfl⟩ := h
  exact ⟨q, valS_run w hq, rfl⟩
theorem concL_mem {l : List AV} {vs : List Value} {i : Nat} {x : AV} (hl : concL γ l = some vs) (h : l[i]? = some x) : ∃ v, vs[i]? = some v ∧ conc γ x = some v := by
  have := concL_get hl i
  rw [h] at this
  simp only [Option.bind_some] at this
  cases hx : conc γ x with
  | none =>
    rw [hx] at this
    have h1 := (List.getElem?_eq_some_iff.1 h).1
    have h2 := List.getElem?_eq_none_iff.1 this
    rw [concL_len hl] at h2
    omega
  | some v => exact ⟨v, by rw [this, hx], rfl⟩
theorem extract_ok {i : Nat} {x r : AV} {v : Value} (h : pExtract x i = some r) (hv : conc γ x = some v) (w : World) : ∃ q, (Instr.extract v i).run E.P w = .ok q w ∧ conc γ r = some q := by
  unfold pExtract at h
  split at h
  · simp only [conc, Option.map_eq_some_iff] at hv
    obtain ⟨vs, hvs, rfl⟩ := hv
    obtain ⟨q, h1, h2⟩ := concL_mem hvs h
    exact ⟨q, by simp [Instr.extract, h1], h2⟩
  · cases conc_c hv
    simp only [Option.map_eq_some_iff] at h
    obtain ⟨q, hq, rfl⟩ := h
    exact ⟨q, by simp [Instr.extract, hq], rfl⟩
  · simp at h
theorem sb_ok {P : Program} {L H M : Option Value} {len cap l h m : Nat} (w : World) (hL : (L = none ∧ l = 0) ∨ ∃ k, L = some (.int k l)) (hH : (H = none ∧ h = len ∧ M = none) ∨ ∃ k, H = some (.int k h)) (hM : (M = none ∧ m = cap) ∨ ∃ k, M = some (.int k m)) (h1 : l ≤ h) (h2 : h ≤ m) (h3 : m ≤ cap) :
    (Instr.sliceBounds true len cap L H M).run P w = .ok (l, h, m) w := by
  rcases hL with ⟨rfl, rfl⟩ | ⟨kl, rfl⟩ <;> rcases hM with ⟨rfl, rfl⟩ | ⟨km, rfl⟩ <;> rcases hH with ⟨rfl, rfl, h0⟩ | ⟨kh, rfl⟩ <;>
    first | (simp at h0; done) | (have : l ≤ h := h1; have : h ≤ m := h2; have : m ≤ cap := h3; simp [Instr.sliceBounds, Instr.sliceBound, asIntOf, *]; try omega) | (have : h ≤ m := h2; simp [Instr.sliceBounds, Instr.sliceBound, asIntOf, *]; try omega) | simp [Instr.sliceBounds, Instr.sliceBound, asIntOf, *]
theorem idx_ok {ρA : Operand → AV} {ρ : Operand → Value} (hρ : ∀ x, conc γ (ρA x) = some (ρ x)) {d n : Nat} {o : Option Operand} (h : idxA ρA d o = some n) : (o.map ρ = none ∧ o = none ∧ n = d) ∨ ∃ k, o.map ρ = some (.int k n) := by
  unfold idxA at h
  split at h
  · simp only [Option.some.injEq] at h
    exact .inl ⟨rfl, rfl, h.symm⟩
  · rename_i x
    split at h
    · rename_i k m hx
      simp only [Option.some.injEq] at h
      subst h
      have := hρ x
      rw [hx] at this
      exact .inr ⟨k, by simp [conc_c this]⟩
    · simp at h
theorem opt_ok {ρA : Operand → AV} {ρ : Operand → Value} (hρ : ∀ x, conc γ (ρA x) = some (ρ x)) {o : Option Operand} {a : Option Value} (h : optA ρA o = some a) : o.map ρ = a := by
  unfold optA at h
  split at h
  · simp only [Option.some.injEq] at h; simpa using h
  · rename_i x
    split at h
    · rename_i u hx
      simp only [Option.some.injEq] at h
      have := hρ x
      rw [hx] at this
      simp [← h, conc_c this]
    · simp at h
theorem slice_ok {ρA : Operand → AV} {ρ : Operand → Value} (hρ : ∀ x, conc γ (ρA x) = some (ρ x)) {t : TypeId} {x r : AV} {v : Value} {lo hi mx : Option Operand} (h : pSlice E ρA t x lo hi mx = some r) (hv : conc γ x = some v) (w : World) :
    ∃ q, (Instr.sliceAt t v (lo.map ρ) (hi.map ρ) (mx.map ρ)).run E.P w = .ok q w ∧ conc γ r = some q := by
  unfold pSlice at h
  split at h
  · rename_i e i o n rr c hu
    cases hbad : (hi.isNone && mx.isSome) with
    | true => rw [hbad] at h; simp at h
    | false =>
      rw [hbad] at h
      simp only [cond_false] at h
      split at h
      case h_2 => simp at h
      rename_i z l hh m hz hl hh' hm
      obtain ⟨bk, hbk, rfl, hk⟩ := conc_s hv
      have run : ∀ (w : World) (mm : Nat), (l ≤ hh) → hh ≤ mm → mm ≤ (bif rr then bk.k - c else c) → ((mx = none → mm = (bif rr then bk.k - c else c)) ∧ (mx ≠ none → mm = m)) →
          (Instr.sliceAt t (.slice (some ⟨bk.b, bk.o + o, none⟩) n (bif rr then bk.k - c else c)) (lo.map ρ) (hi.map ρ) (mx.map ρ)).run E.P w = .ok (.slice (if mm = l then some ⟨bk.b, bk.o + o, none⟩ else some ⟨bk.b, bk.o + o + l * z, none⟩) (hh - l) (mm - l)) w := by
        intro w mm h1 h2 h3 h4
        have hL : (lo.map ρ = none ∧ l = 0) ∨ ∃ k, lo.map ρ = some (.int k l) := (idx_ok hρ hl).imp (fun h => ⟨h.1, h.2.2⟩) id
        have hM : (mx.map ρ = none ∧ mm = (bif rr then bk.k - c else c)) ∨ ∃ k, mx.map ρ = some (.int k mm) := by
          rcases idx_ok hρ hm with ⟨a, b, _⟩ | ⟨k, hk⟩
          · exact .inl ⟨a, h4.1 b⟩
          · refine .inr ⟨k, ?_⟩
            rw [h4.2 (fun e => by rw [e] at hk; simp at hk)]
            exact hk
        have hH : (hi.map ρ = none ∧ hh = n ∧ mx.map ρ = none) ∨ ∃ k, hi.map ρ = some (.int k hh) := by
          rcases idx_ok hρ hh' with ⟨a, b, e⟩ | ⟨k, hk⟩
          · refine .inl ⟨a, e, ?_⟩
            subst b
            cases mx with
            | none => rfl
            | some _ => simp at hbad
          · exact .inr ⟨k, hk⟩
        have hb := sb_ok (P := E.P) w hL hH hM h1 h2 h3
        have e1 : Instr.sliceAt t (.slice (some ⟨bk.b, bk.o + o, none⟩) n (bif rr then bk.k - c else c)) (lo.map ρ) (hi.map ρ) (mx.map ρ) = Instr.sliceAt t (.slice (some ⟨bk.b, bk.o + o, none⟩) n (bif rr then bk.k - c else c)) (lo.map ρ) (hi.map ρ) (mx.map ρ) := rfl
        simp only [Instr.sliceAt, Instr.slice, Sem.run_bind, run_underlying hu, Result.andThen_ok, hb, run_sz hz, Sem.run_pure, Option.map_some, Addr.add_lit]
      unfold sliceA at h
      cases hc1 : (Nat.ble l hh && (bif rr then Nat.ble hh n else Nat.ble hh c)) with
      | false => rw [hc1] at h; simp at h
      | true =>
        rw [hc1] at h
        simp only [cond_true] at h
        simp only [Bool.and_eq_true] at hc1
        have hlh := ble_le hc1.1
        cases mx with
        | none =>
          simp only [Option.map_none] at h
          cases rr with
          | true =>
            have hhn := ble_le hc1.2
            have hk' := hk rfl
            simp only [cond_true] at h run ⊢
            have R := run w (bk.k - c) hlh (by omega) (Nat.le_refl _) ⟨fun _ => rfl, fun h => absurd rfl h⟩
            refine ⟨_, R, ?_⟩
            rw [beq_dec] at h
            by_cases l0 : l = 0
            · subst l0
              simp only [decide_true, cond_true, Option.some.injEq] at h
              subst h
              rw [conc_s_mk hbk (fun _ => by omega)]
              simp
            · simp only [decide_eq_false l0, cond_false] at h
              cases hln : Nat.blt l n with
              | true =>
                rw [hln] at h
                simp only [cond_true, Option.some.injEq] at h
                subst h
                have hln := blt_lt hln
                rw [conc_s_mk hbk (fun _ => by omega)]
                have : ¬ bk.k - c = l := by omega
                simp only [this, if_false, cond_true, Nat.add_assoc, Nat.sub_sub]
              | false =>
                rw [hln] at h
                simp only [cond_false, Option.some.injEq] at h
                subst h
                have hln' : ¬ l < n := fun h => by rw [show Nat.blt l n = true from Nat.ble_eq_true_of_le h] at hln; cases hln
                obtain rfl : l = n := by omega
                obtain rfl : hh = l := by omega
                have hlt : Nat.blt bk.k (c + hh) = false := Bool.eq_false_iff.2 fun h => by have := blt_lt h; omega
                simp only [conc, hbk, Option.bind_some, hlt, cond_false, Nat.sub_self, Option.some.injEq, Value.slice.injEq, and_true, true_and]
                by_cases he : bk.k - c = hh
                · simp [he]
                · simp [he, Nat.add_assoc]
          | false =>
            have hhc := ble_le hc1.2
            simp only [cond_false] at h run ⊢
            have R := run w c hlh hhc (Nat.le_refl _) ⟨fun _ => rfl, fun h => absurd rfl h⟩
            refine ⟨_, R, ?_⟩
            rw [beq_dec] at h
            by_cases lc : l = c
            · subst lc
              simp only [decide_true, cond_true, Option.some.injEq] at h
              subst h
              rw [conc_s_mk hbk (fun h => by cases h)]
              have : hh - l = 0 := by omega
              simp [this]
            · simp only [decide_eq_false lc, cond_false, Option.some.injEq] at h
              subst h
              rw [conc_s_mk hbk (fun h => by cases h)]
              have : ¬ c = l := fun e => lc e.symm
              simp [this, Nat.add_assoc]
        | some mo =>
          simp only [Option.map_some] at h
          cases hc2 : (Nat.ble hh m && (bif rr then Nat.ble m n else Nat.ble m c)) with
          | false => rw [hc2] at h; simp at h
          | true =>
            rw [hc2] at h
            simp only [cond_true] at h
            simp only [Bool.and_eq_true] at hc2
            have hhm := ble_le hc2.1
            have hmc : m ≤ (bif rr then bk.k - c else c) := by
              cases rr with
              | true => have := ble_le hc2.2; have := hk rfl; simp only [cond_true]; omega
              | false => exact ble_le hc2.2
            have R := run w m hlh hhm hmc ⟨(fun h => by cases h), fun _ => rfl⟩
            refine ⟨_, R, ?_⟩
            rw [beq_dec] at h
            by_cases lm : l = m
            · subst lm
              simp only [decide_true, cond_true, Option.some.injEq] at h
              subst h
              rw [conc_s_mk hbk (fun h => by cases h)]
              have : hh - l = 0 := by omega
              simp [this]
            · simp only [decide_eq_false lm, cond_false, Option.some.injEq] at h
              subst h
              rw [conc_s_mk hbk (fun h => by cases h)]
              have : ¬ m = l := fun e => lm e.symm
              simp [this, Nat.add_assoc]
  · rename_i e i o z c l hu
    split at h
    case h_2 => simp at h
    rename_i hz hl hh
    simp only [Option.some.injEq] at h
    subst h
    obtain ⟨bk, hbk, rfl, hk⟩ := conc_y hv
    refine ⟨_, ?_, hv⟩
    have hL : (lo.map ρ = none ∧ 0 = 0) ∨ ∃ k, lo.map ρ = some (.int k (0 : Nat)) := (idx_ok hρ hl).imp (fun h => ⟨h.1, h.2.2⟩) id
    have hH : (hi.map ρ = none ∧ 0 = 0 ∧ (none : Option Operand).map ρ = none) ∨ ∃ k, hi.map ρ = some (.int k (0 : Nat)) := (idx_ok hρ hh).imp (fun h => ⟨h.1, h.2.2, rfl⟩) id
    have hb := sb_ok (P := E.P) (cap := bk.k - c - l) (m := bk.k - c - l) w hL hH (.inl ⟨rfl, rfl⟩) (Nat.le_refl _) (Nat.zero_le _) (Nat.le_refl _)
    simp only [Instr.sliceAt, Instr.slice, Sem.run_bind, run_underlying hu, Result.andThen_ok, hb, run_sz hz, Sem.run_pure, Option.map_some, Addr.add_lit]
    simp
  · rename_i d v' hne hu
    split at h
    case h_2 => simp at h
    rename_i a b dd ha hb hd
    simp only [Option.map_eq_some_iff] at h
    obtain ⟨q, hq, rfl⟩ := h
    cases conc_c hv
    rw [opt_ok hρ ha, opt_ok hρ hb, opt_ok hρ hd]
    exact ⟨q, valS_run w hq, rfl⟩
  · simp at h
theorem len_ok {ty t : TypeId} {x r : AV} {v : Value} (h : pLen E ty t x = some r) (hv : conc γ x = some v) (w : World) : ∃ q, (Builtin.len_ #[t] ty #[v]).run E.P w = .ok q w ∧ conc γ r = some q := by
  unfold pLen at h
  split at h
  · rename_i hu
    simp only [Option.some.injEq] at h; subst h
    obtain ⟨bk, _, rfl, _⟩ := conc_s hv
    exact ⟨_, by simp [Builtin.len_, run_underlying hu], rfl⟩
  · rename_i hu
    simp only [Option.some.injEq] at h; subst h
    obtain ⟨bk, _, rfl⟩ := conc_z hv
    exact ⟨_, by simp [Builtin.len_, run_underlying hu], rfl⟩
  · rename_i hu
    simp only [Option.some.injEq] at h; subst h
    obtain ⟨bk, _, rfl, _⟩ := conc_y hv
    exact ⟨_, by simp [Builtin.len_, run_underlying hu], rfl⟩
  · simp only [Option.map_eq_some_iff] at h
    obtain ⟨q, hq, rfl⟩ := h
    cases conc_c hv
    exact ⟨q, valS_run w hq, rfl⟩
  · simp at h
theorem cap_ok {ty t : TypeId} {x r : AV} {v : Value} (h : pCap E ty t x = some r) (hv : conc γ x = some v) (w : World) : ∃ q, (Builtin.cap_ #[t] ty #[v]).run E.P w = .ok q w ∧ conc γ r = some q := by
  unfold pCap at h
  split at h
  · rename_i hu
    simp only [Option.some.injEq] at h; subst h
    obtain ⟨bk, _, rfl, _⟩ := conc_s hv
    exact ⟨_, by simp [Builtin.cap_, run_underlying hu], rfl⟩
  · simp only [Option.map_eq_some_iff] at h
    obtain ⟨q, hq, rfl⟩ := h
    cases conc_c hv
    exact ⟨q, valS_run w hq, rfl⟩
  · simp at h
theorem concL_map {ρA : Operand → AV} {ρ : Operand → Value} (hρ : ∀ x, conc γ (ρA x) = some (ρ x)) : ∀ (l : List Operand), concL γ (l.map ρA) = some (l.map ρ)
  | [] => rfl
  | x :: l => concL_cons.2 ⟨_, _, hρ x, concL_map hρ l, rfl⟩
theorem two_args {ρA : Operand → AV} {args : List Operand} {x y : AV} (hx : args.map ρA = [x, y]) : ∃ a b, args = [a, b] ∧ x = ρA a ∧ y = ρA b := by
  cases args with
  | nil => simp at hx
  | cons a l => cases l with
    | nil => simp at hx
    | cons b l => cases l with
      | nil => simp at hx; exact ⟨a, b, rfl, hx.1.symm, hx.2.symm⟩
      | cons => simp at hx
theorem builtin_ok {ρA : Operand → AV} {ρ : Operand → Value} (hρ : ∀ x, conc γ (ρA x) = some (ρ x)) {ty : TypeId} {b : Builtin} {args : Array Operand} {ts : Array TypeId} {r : AV} (h : pBuiltin E ty b (args.toList.map ρA) ts.toList = some r) (cs : Array Bool) (w : World) :
    ∃ q, (builtin b ts ty cs (args.map ρ)).run E.P w = .ok (.value q) w ∧ conc γ r = some q := by
  obtain ⟨args⟩ := args
  obtain ⟨ts⟩ := ts
  unfold pBuiltin at h
  split at h
  · rename_i x t hx ht
    obtain ⟨y, rfl, rfl⟩ : ∃ y, args = [y] ∧ x = ρA y := by
      cases args with
      | nil => simp at hx
      | cons y l => cases l with
        | nil => simp at hx; exact ⟨y, rfl, hx.symm⟩
        | cons => simp at hx
    simp only at ht
    subst ht
    obtain ⟨q, h1, h2⟩ := len_ok h (hρ y) w
    exact ⟨q, by simp [builtin, h1], h2⟩
  · rename_i x t hx ht
    obtain ⟨y, rfl, rfl⟩ : ∃ y, args = [y] ∧ x = ρA y := by
      cases args with
      | nil => simp at hx
      | cons y l => cases l with
        | nil => simp at hx; exact ⟨y, rfl, hx.symm⟩
        | cons => simp at hx
    simp only at ht
    subst ht
    obtain ⟨q, h1, h2⟩ := cap_ok h (hρ y) w
    exact ⟨q, by simp [builtin, h1], h2⟩
  · rename_i x y hx
    obtain ⟨a, b, rfl, rfl, rfl⟩ : ∃ a b, args = [a, b] ∧ x = ρA a ∧ y = ρA b := two_args hx
    unfold pMin at h
    split at h
    · rename_i u v hu hv
      simp only [Option.map_eq_some_iff] at h
      obtain ⟨q, hq, rfl⟩ := h
      have e1 := hρ a; have e2 := hρ b
      rw [hu] at e1; rw [hv] at e2
      have e : (⟨[a, b]⟩ : Array Operand).map ρ = #[u, v] := by simp [conc_c e1, conc_c e2]
      have this : (Builtin.min_ ⟨ts⟩ ty #[u, v]).run E.P w = .ok q w := valS_run (P := E.P) w hq
      exact ⟨q, by rw [e]; simp only [builtin, Sem.run_bind, this, Result.andThen_ok, Sem.run_pure], rfl⟩
    · simp at h
  · rename_i x y hx
    obtain ⟨a, b, rfl, rfl, rfl⟩ : ∃ a b, args = [a, b] ∧ x = ρA a ∧ y = ρA b := two_args hx
    unfold pMax at h
    split at h
    · rename_i u v hu hv
      simp only [Option.map_eq_some_iff] at h
      obtain ⟨q, hq, rfl⟩ := h
      have e1 := hρ a; have e2 := hρ b
      rw [hu] at e1; rw [hv] at e2
      have e : (⟨[a, b]⟩ : Array Operand).map ρ = #[u, v] := by simp [conc_c e1, conc_c e2]
      have this : (Builtin.max_ ⟨ts⟩ ty #[u, v]).run E.P w = .ok q w := valS_run (P := E.P) w hq
      exact ⟨q, by rw [e]; simp only [builtin, Sem.run_bind, this, Result.andThen_ok, Sem.run_pure], rfl⟩
    · simp at h
  · simp at h
def placeS (f : Field) : Sem (Nat × Nat) := do pure (f.offset, ← sizeOf f.type)
theorem places_ok : ∀ {fs : List Field} {ps : List (Nat × Nat)}, placesA E fs = some ps → ∀ w, (fs.mapM placeS).run E.P w = .ok ps w
  | [], ps, h, w => by simp only [placesA, Option.some.injEq] at h; subst h; rfl
  | f :: fs, ps, h, w => by
    simp only [placesA] at h
    split at h
    · rename_i n r hn hr
      simp only [Option.some.injEq] at h; subst h
      have h1 : (placeS f).run E.P w = .ok (f.offset, n) w := by simp only [placeS, Sem.run_bind, run_sz hn, Result.andThen_ok, Sem.run_pure]
      simp only [List.mapM_cons, Sem.run_bind, h1, places_ok hr, Result.andThen_ok, Sem.run_pure]
    · simp at h
theorem fold_set (l : List Value) : ∀ (cs : Array Value) (o j : Nat), o + j + l.length ≤ cs.size → ((l.zipIdx j).foldl (fun (cs : Array Value) (p : Value × Nat) => cs.setIfInBounds (o + p.2) p.1) cs).toList = cs.toList.take (o + j) ++ (l ++ cs.toList.drop (o + j + l.length)) := by
  induction l with
  | nil => intro cs o j h; simp
  | cons v l ih =>
    intro cs o j h
    simp only [List.length_cons] at h
    simp only [List.zipIdx_cons, List.foldl_cons]
    have := ih (cs.setIfInBounds (o + j) v) o (j + 1) (by simp; omega)
    rw [this]
    apply List.ext_getElem?
    intro i
    simp only [Array.toList_setIfInBounds, List.getElem?_append, List.length_take, List.length_set, Array.length_toList, List.getElem?_take, List.getElem?_drop, List.length_cons]
    by_cases h1 : i < o + j
    · have a1 : i < min (o + (j + 1)) cs.size := by omega
      have a2 : i < min (o + j) cs.size := by omega
      have a3 : ¬ o + j = i := by omega
      simp [a1, a2, h1, show i < o + (j + 1) by omega, List.getElem?_set, a3]
    · by_cases h2 : i = o + j
      · subst h2
        have a1 : o + j < min (o + (j + 1)) cs.size := by omega
        have a2 : ¬ o + j < min (o + j) cs.size := by omega
        have a5 : min (o + j) cs.size = o + j := by omega
        have a7 : o + j < o + (j + 1) := by omega
        simp [a1, a2, List.getElem?_set, a5, a7]
        omega
      · have a1 : ¬ i < min (o + (j + 1)) cs.size := by omega
        have a2 : ¬ i < min (o + j) cs.size := by omega
        have a5 : min (o + j) cs.size = o + j := by omega
        have a6 : min (o + (j + 1)) cs.size = o + j + 1 := by omega
        rw [if_neg a1, if_neg a2, a5, a6]
        obtain ⟨d, rfl⟩ : ∃ d, i = o + j + 1 + d := ⟨i - (o + j + 1), by omega⟩
        rw [show o + j + 1 + d - (o + j + 1) = d by omega, show o + j + 1 + d - (o + j) = d + 1 by omega]
        simp only [List.cons_append, List.getElem?_cons_succ, List.getElem?_append, List.getElem?_drop, List.getElem?_set]
        by_cases hd : d < l.length
        · rw [if_pos hd, if_pos (by omega)]
        · rw [if_neg hd, if_neg (by omega), if_neg (by omega)]
          congr 1
          omega
theorem fill_ok {ρA : Operand → AV} {ρ : Operand → Value} (hρ : ∀ x, conc γ (ρA x) = some (ρ x)) (place : Nat → Option (Nat × Nat)) : ∀ (parts : List (Nat × Operand)) (l r : List AV) (cs : Array Value), fillA place ρA parts l = some r → concL γ l = some cs.toList →
    ∃ cs', Instr.fill place cs (parts.map fun p => (p.1, ρ p.2)) = some cs' ∧ concL γ r = some cs'.toList
  | [], l, r, cs, h, hl => by
    simp only [fillA, Option.some.injEq] at h; subst h
    exact ⟨cs, rfl, hl⟩
  | (i, x) :: parts, l, r, cs, h, hl => by
    simp only [fillA] at h
    split at h
    · simp at h
    · rename_i o n hp
      cases hb : (Nat.beq (ρA x).cells.length n && Nat.ble (o + n) l.length) with
      | false => rw [hb] at h; simp at h
      | true =>
        rw [hb] at h
        simp only [cond_true] at h
        simp only [Bool.and_eq_true] at hb
        have hn := Nat.eq_of_beq_eq_true hb.1
        have hle := ble_le hb.2
        have hc := cells_conc (hρ x)
        have hlen := concL_len hc
        have hll := concL_len hl
        simp only [Array.length_toList] at hlen hll
        have hfs := fold_set (ρ x).cells.toList cs o 0 (by simp; omega)
        have hnew : concL γ (l.take o ++ ((ρA x).cells ++ l.drop (o + n))) = some ((ρ x).cells.zipIdx.foldl (fun cs (c, j) => cs.setIfInBounds (o + j) c) cs).toList := by
          have e : ((ρ x).cells.zipIdx.foldl (fun cs (c, j) => cs.setIfInBounds (o + j) c) cs).toList = cs.toList.take o ++ ((ρ x).cells.toList ++ cs.toList.drop (o + n)) := by
            rw [← Array.foldl_toList]
            simp only [Array.toList_zipIdx]
            refine hfs.trans ?_
            simp [hn, hlen]
          rw [e]
          exact concL_append (concL_take o hl) (concL_append hc (concL_drop (o + n) hl))
        obtain ⟨cs', h1, h2⟩ := fill_ok hρ place parts _ r _ h hnew
        refine ⟨cs', ?_, h2⟩
        simp only [List.map_cons, Instr.fill, hp]
        rw [if_neg]
        · exact h1
        · simp; omega
theorem build_ok {ρA : Operand → AV} {ρ : Operand → Value} (hρ : ∀ x, conc γ (ρA x) = some (ρ x)) {t : TypeId} {parts : Array (Nat × Operand)} {r : AV} (h : pBuild E ρA t parts.toList = some r) (w : World) :
    ∃ q, (Instr.build t (parts.map fun (i, x) => (i, ρ x))).run E.P w = .ok q w ∧ conc γ r = some q := by
  unfold pBuild at h
  split at h
  case h_2 => simp at h
  rename_i z fs hz hu
  split at h
  case h_2 => simp at h
  rename_i ps hps
  simp only [Option.map_eq_some_iff] at h
  obtain ⟨l, hl, rfl⟩ := h
  obtain ⟨cs', h1, h2⟩ := fill_ok hρ (fun i => ps[i]?) parts.toList _ _ z.cells hl (concL_c _)
  refine ⟨.agg cs', ?_, by simp [conc, h2]⟩
  have hm : (fs.mapM placeS).run E.P w = .ok ps.toArray w := by
    rw [Array.mapM_eq_mapM_toList]
    have := places_ok hps w
    show (Functor.map List.toArray (List.mapM placeS fs.toList)).run E.P w = _
    simp [this]
  unfold Instr.build
  simp only [Sem.run_bind, run_zero hz, Result.andThen_ok, run_underlying hu]
  have hm2 : (Array.mapM (fun (f : Field) => do
      let a ← sizeOf f.type
      pure (f.offset, a)) fs : Sem (Array (Nat × Nat))).run E.P w = .ok ps.toArray w := hm
  have e2 : (Array.map (fun (x : Nat × Operand) => (x.fst, ρ x.snd)) parts).toList = parts.toList.map fun p => (p.1, ρ p.2) := by simp
  have h1' : Instr.fill (fun i => ps.toArray[i]?) z.cells (parts.toList.map fun p => (p.1, ρ p.2)) = some cs' := by simpa using h1
  rw [hm2]
  simp only [Result.andThen_ok]
  rw [e2, h1']
  rfl
/-- What an operation that only computes gives. -/
theorem pure_ok (hg : Glob E γ) {ρA : Operand → AV} {ρ : Operand → Value} (hρ : ∀ x, conc γ (ρA x) = some (ρ x)) {o : Oper} {r : AV} (h : evPure E ρA o.type o.op = some r) (w : World) :
    ∃ q, (execOp ρ o).run E.P w = .ok (.value q) w ∧ conc γ r = some q := by
  obtain ⟨dst, op, ty, pos, after, guard⟩ := o
  cases op <;> simp only [evPure] at h
  case move x => simp only [Option.some.injEq] at h; subst h; exact ⟨ρ x, rfl, hρ x⟩
  case assign x => simp only [Option.some.injEq] at h; subst h; exact ⟨ρ x, rfl, hρ x⟩
  case pick c a b =>
    unfold pPick at h
    split at h
    · rename_i t hc
      simp only [Option.some.injEq] at h; subst h
      have := hρ c
      rw [hc] at this
      refine ⟨if t then ρ a else ρ b, ?_, by cases t <;> simp [hρ]⟩
      simp only [execOp, conc_c this, asBool, Sem.run_bind, Sem.run_pure, Result.andThen_ok]
    · simp at h
  case binOp op t x y _ =>
    obtain ⟨q, h1, h2⟩ := bin_ok h (hρ x) (hρ y) w
    refine ⟨q, ?_, h2⟩
    simp only [execOp]
    rw [Sem.run_bind, h1, Result.andThen_ok, Sem.run_pure]
  case unOp op _ x =>
    unfold pUn at h
    split at h
    · rename_i v hc
      simp only [Option.map_eq_some_iff] at h
      obtain ⟨q, hq, rfl⟩ := h
      have := hρ x
      rw [hc] at this
      exact ⟨q, by simp only [execOp, conc_c this, Sem.run_bind, valS_run w hq, Result.andThen_ok, Sem.run_pure], rfl⟩
    · simp at h
  case convert s d x =>
    unfold pConv at h
    split at h
    · rename_i v hc
      simp only [Option.map_eq_some_iff] at h
      obtain ⟨q, hq, rfl⟩ := h
      have := hρ x
      rw [hc] at this
      exact ⟨q, by simp only [execOp, conc_c this, Sem.run_bind, valS_run w hq, Result.andThen_ok, Sem.run_pure], rfl⟩
    · simp at h
  case fieldAddr s x f =>
    obtain ⟨q, h1, h2⟩ := fieldAddr_ok hg h (hρ x) w
    exact ⟨q, by simp only [execOp, Sem.run_bind, h1, Result.andThen_ok, Sem.run_pure], h2⟩
  case field t x f =>
    obtain ⟨q, h1, h2⟩ := field_ok h (hρ x) w
    exact ⟨q, by simp only [execOp, Sem.run_bind, h1, Result.andThen_ok, Sem.run_pure], h2⟩
  case indexAddr t x ix =>
    obtain ⟨q, h1, h2⟩ := indexAddr_ok hg h (hρ x) (hρ ix) w
    exact ⟨q, by simp only [execOp, Sem.run_bind, h1, Result.andThen_ok, Sem.run_pure], h2⟩
  case index t x ix =>
    obtain ⟨q, h1, h2⟩ := index_ok h (hρ x) (hρ ix) w
    exact ⟨q, by simp only [execOp, Sem.run_bind, h1, Result.andThen_ok, Sem.run_pure], h2⟩
  case extract x i =>
    obtain ⟨q, h1, h2⟩ := extract_ok (E := E) h (hρ x) w
    exact ⟨q, by simp only [execOp, Sem.run_bind, h1, Result.andThen_ok, Sem.run_pure], h2⟩
  case makeFunc fn first cap =>
    cases fn with
    | func f =>
      simp only [Option.some.injEq] at h; subst h
      refine ⟨.func (.func f) (first.map ρ) (cap.map ρ), rfl, ?_⟩
      simp only [conc, concL_map hρ, Option.map_some, Option.some.injEq, Value.func.injEq, true_and]
      exact ⟨Array.toList_inj.1 (by simp), Array.toList_inj.1 (by simp)⟩
    | _ => simp at h
  case nilCheck x =>
    have hx := hρ x
    unfold pNil at h
    split at h
    · rename_i i o' hc
      simp only [Option.some.injEq] at h; subst h
      rw [hc] at hx
      obtain ⟨bk, hb, e⟩ := conc_p hx
      exact ⟨ρ x, by simp only [execOp, e]; rfl, hx⟩
    · rename_i k u l hc
      simp only [Option.some.injEq] at h; subst h
      rw [hc] at hx
      obtain ⟨us, vs, _, _, e⟩ := conc_func hx
      exact ⟨ρ x, by simp only [execOp, e]; rfl, hx⟩
    · rename_i a hc
      simp only [Option.some.injEq] at h; subst h
      rw [hc] at hx
      exact ⟨ρ x, by simp only [execOp, conc_c hx]; rfl, hx⟩
    · rename_i k u l hc
      simp only [Option.some.injEq] at h; subst h
      rw [hc] at hx
      exact ⟨ρ x, by simp only [execOp, conc_c hx]; rfl, hx⟩
    · simp at h
  case slice t x lo hi mx =>
    obtain ⟨q, h1, h2⟩ := slice_ok hρ h (hρ x) w
    exact ⟨q, by simp only [execOp, Sem.run_bind, h1, Result.andThen_ok, Sem.run_pure], h2⟩
  case build t parts =>
    obtain ⟨q, h1, h2⟩ := build_ok hρ h w
    exact ⟨q, by simp only [execOp, Sem.run_bind, h1, Result.andThen_ok, Sem.run_pure], h2⟩
  case call c =>
    obtain ⟨callee, args, ts⟩ := c
    cases callee with
    | builtin b =>
      obtain ⟨q, h1, h2⟩ := builtin_ok hρ h _ w
      exact ⟨q, by simp only [execOp, resolve, invoke, Sem.run_bind, Sem.run_pure, Result.andThen_ok]; exact h1, h2⟩
    | _ => simp at h
  all_goals simp at h
end
end Go.Proofs.YtgpgmmkkmoecmaaGreatDoor

/- Closed calls, evaluated: what named blocks say of memory; what is read. Plain lemmas over the model; no program. -/
namespace Go.Proofs.YtgpgmmkkmoecmaaGreatDoor
open Go Go.RowKit

theorem heapK_old {w : World} {o : Obj} {i : Nat} (h : i < w.heap.size) : (w.alloc o).heap[i]? = w.heap[i]? := by
  show (w.heap.push o)[i]? = _
  rw [Array.getElem?_push, if_neg (by omega)]
theorem heapK_new {w : World} {o : Obj} : (w.alloc o).heap[w.heap.size]? = some o := by
  show (w.heap.push o)[w.heap.size]? = _
  rw [Array.getElem?_push, if_pos rfl]
def AO.own : AO → Bool
  | .ro _ => false
  | _ => true
/-- A block is as told. -/
def AO.at_ (P : Program) (γ : Nm) (bk : Bk) (w : World) : AO → Prop
  | .cells l e g => bk.o = 0 ∧ bk.nl = none ∧ ∃ vs ex, concL γ l = some vs ∧ w.heap[bk.b]? = some (.cells (vs ++ ex).toArray e (0, 0)) ∧ (g = false → ex = []) ∧ (g = true → ∃ i, P.info? e = some i ∧ (vs ++ ex).length = bk.k * i.size)
  | .ro l => ∃ vs, concL γ l = some vs ∧ ∀ j v, vs[j]? = some v → w.cell? ⟨bk.b, bk.o + j, none⟩ = some v
  | .map es => ∃ (ms : List MapEntry) (ck : Nat), w.heap[bk.b]? = some (.map ms.toArray ck) ∧ ms.map (·.key) = es.map (·.1) ∧ concL γ (es.map (·.2)) = some (ms.map (·.val))
  | .iter m => bk.o = 0 ∧ ∃ mb since ck, γ m = some mb ∧ w.heap[bk.b]? = some (.mapIter (some mb.b) since #[] ck)
section
variable {P : Program} {E : Ev} {W w w' w1 w2 : World} {γ γ' γ1 γ2 : Nm} {bk : Bk} {ob : AO} {st st' st1 st2 : ES}
theorem AO.at_ext (h : Ext γ γ') (ha : ob.at_ P γ bk w) : ob.at_ P γ' bk w := by
  cases ob with
  | cells l e g => obtain ⟨h1, h2, vs, ex, h3, h4⟩ := ha; exact ⟨h1, h2, vs, ex, concL_ext h l h3, h4⟩
  | ro l => obtain ⟨vs, h1, h2⟩ := ha; exact ⟨vs, concL_ext h l h1, h2⟩
  | map es => obtain ⟨ms, ck, h1, h2, h3⟩ := ha; exact ⟨ms, ck, h1, h2, concL_ext h _ h3⟩
  | iter m => obtain ⟨h0, mb, s, ck, h1, h2⟩ := ha; exact ⟨h0, mb, s, ck, h _ _ h1, h2⟩
theorem AO.at_congr (he : w'.heap[bk.b]? = w.heap[bk.b]?) (ha : ob.at_ P γ bk w) : ob.at_ P γ bk w' := by
  cases ob with
  | cells l e g => obtain ⟨h1, h2, vs, ex, h3, h4, h5⟩ := ha; exact ⟨h1, h2, vs, ex, h3, he.trans h4, h5⟩
  | ro l => obtain ⟨vs, h1, h2⟩ := ha; exact ⟨vs, h1, fun j v hj => by have := h2 j v hj; unfold World.cell? at *; rw [he]; exact this⟩
  | map es => obtain ⟨ms, ck, h1, h2, h3⟩ := ha; exact ⟨ms, ck, he.trans h1, h2, h3⟩
  | iter m => obtain ⟨h0, mb, s, ck, h1, h2⟩ := ha; exact ⟨h0, mb, s, ck, h1, he.trans h2⟩
structure RelG (E : Ev) (W : World) (γ : Nm) (g : Nat → Option AO) (x : Nat) (w : World) : Prop where
  fresh : ∀ i, x ≤ i → γ i = none
  small : x ≤ 1000000000
  glob : Glob E γ
  has : ∀ i ob, g i = some ob → ∃ bk, γ i = some bk ∧ bk.b < w.heap.size ∧ ob.at_ E.P γ bk w ∧ (ob.own = true → W.heap.size ≤ bk.b)
  inj : ∀ i j oi oj bi bj, g i = some oi → g j = some oj → oi.own = true → γ i = some bi → γ j = some bj → bi.b = bj.b → i = j
  old : Below W.heap.size W w
abbrev Rel (E : Ev) (W : World) (γ : Nm) (st : ES) (w : World) : Prop := RelG E W γ st.h.get st.x w
/-- From one state to the next. -/
structure GoesG (γ γ' : Nm) (g g' : Nat → Option AO) (x x' : Nat) (w w' : World) : Prop where
  ext : Ext γ γ'
  keep : ∀ i, i < x → γ i = none → γ' i = none
  nx : x ≤ x'
  size : w.heap.size ≤ w'.heap.size
  frame : ∀ k, k < w.heap.size → (∀ i ob bk, g i = some ob → γ i = some bk → ob.own = true → bk.b ≠ k) → w'.heap[k]? = w.heap[k]?
  dom : ∀ i, i < x → g i = none → g' i = none
  from_ : ∀ i ob bk, g' i = some ob → γ' i = some bk → w.heap.size ≤ bk.b ∨ ∃ j oj bj, g j = some oj ∧ γ j = some bj ∧ bj.b = bk.b ∧ (ob.own = true → oj.own = true)
abbrev Goes (γ γ' : Nm) (st st' : ES) (w w' : World) : Prop := GoesG γ γ' st.h.get st'.h.get st.x st'.x w w'
theorem Rel.lt (h : Rel E W γ st w) {i : Nat} {ob : AO} (hi : st.h.get i = some ob) : i < st.x := by
  obtain ⟨bk, hb, _⟩ := h.has i ob hi
  rcases Nat.lt_or_ge i st.x with h' | h'
  · exact h'
  · rw [h.fresh i h'] at hb; cases hb
theorem Rel.same (h : Rel E W γ st w) (he : w'.heap = w.heap) (ho : w'.os = w.os) (ht : w'.tape = w.tape) (hp : w'.output = w.output) : Rel E W γ st w' where
  fresh := h.fresh
  small := h.small
  glob := h.glob
  has := fun i ob hi => by
    obtain ⟨bk, h1, h2, h3, h4⟩ := h.has i ob hi
    exact ⟨bk, h1, by rw [he]; exact h2, AO.at_congr (by rw [he]) h3, h4⟩
  inj := h.inj
  old := ⟨ho.trans h.old.os, ht.trans h.old.tape, hp.trans h.old.output, by rw [he]; exact h.old.size, fun k hk => by rw [he]; exact h.old.block k hk⟩
theorem Goes.refl (h : Rel E W γ st w) : Goes γ γ st st w w :=
  ⟨Ext.refl _, fun _ _ h => h, Nat.le_refl _, Nat.le_refl _, fun _ _ _ => rfl, fun _ _ h => h, fun i ob bk hi hb => .inr ⟨i, ob, bk, hi, hb, rfl, fun h => h⟩⟩
theorem Goes.same (h : Rel E W γ st w) (he : w'.heap = w.heap) : Goes γ γ st st w w' :=
  ⟨Ext.refl _, fun _ _ h => h, Nat.le_refl _, by rw [he]; exact Nat.le_refl _, fun _ _ _ => by rw [he], fun _ _ h => h, fun i ob bk hi hb => .inr ⟨i, ob, bk, hi, hb, rfl, fun h => h⟩⟩
theorem GoesG.trans {g g1 g2 : Nat → Option AO} {x x1 x2 : Nat} (h : GoesG γ γ1 g g1 x x1 w w1) (h' : GoesG γ1 γ2 g1 g2 x1 x2 w1 w2) : GoesG γ γ2 g g2 x x2 w w2 where
  ext := h.ext.trans h'.ext
  keep := fun i hi hn => h'.keep i (Nat.lt_of_lt_of_le hi h.nx) (h.keep i hi hn)
  nx := Nat.le_trans h.nx h'.nx
  size := Nat.le_trans h.size h'.size
  frame := fun k hk hn => by
    rw [h'.frame k (Nat.lt_of_lt_of_le hk h.size) ?_, h.frame k hk hn]
    intro i ob bk hi hb ho
    rcases h.from_ i ob bk hi hb with h1 | ⟨j, oj, bj, h1, h2, h3, h4⟩
    · omega
    · rw [← h3]; exact hn j oj bj h1 h2 (h4 ho)
  dom := fun i hi hn => h'.dom i (Nat.lt_of_lt_of_le hi h.nx) (h.dom i hi hn)
  from_ := fun i ob bk hi hb => by
    rcases h'.from_ i ob bk hi hb with h1 | ⟨j, oj, bj, h1, h2, h3, h4⟩
    · exact .inl (Nat.le_trans h.size h1)
    · rcases h.from_ j oj bj h1 h2 with h5 | ⟨l, ol, bl, h5, h6, h7, h8⟩
      · exact .inl (by omega)
      · exact .inr ⟨l, ol, bl, h5, h6, h7.trans h3, fun h => h8 (h4 h)⟩
/-- A block is written. -/
theorem Rel.write (h : Rel E W γ st w) {i : Nat} {oi : AO} {bi : Bk} (hi : st.h.get i = some oi) (hoi : oi.own = true) (hb : γ i = some bi) (hob : ob.own = true)
    (hs : w'.heap.size = w.heap.size) (hk : ∀ k, k ≠ bi.b → w'.heap[k]? = w.heap[k]?) (ho : w'.os = w.os) (ht : w'.tape = w.tape) (hp : w'.output = w.output) (ha : ob.at_ E.P γ bi w') :
    Rel E W γ ⟨st.h.put i (some ob), st.x⟩ w' ∧ Goes γ γ st ⟨st.h.put i (some ob), st.x⟩ w w' := by
  have hlt := h.lt hi
  have hsm := h.small
  have hg : ∀ j, (st.h.put i (some ob)).get j = if j = i then some ob else st.h.get j := fun j => Tr.get_put (by omega)
  have hbl : W.heap.size ≤ bi.b := by
    obtain ⟨bk, h1, _, _, h4⟩ := h.has i oi hi
    rw [hb] at h1; cases h1
    exact h4 hoi
  have hbs : bi.b < w.heap.size := by
    obtain ⟨bk, h1, h2, _⟩ := h.has i oi hi
    rw [hb] at h1; cases h1
    exact h2
  refine ⟨⟨h.fresh, h.small, h.glob, fun j oj hj => ?_, fun a b oa ob' ba bb h1 h2 h3 h4 h5 h6 => ?_, ?_⟩, ⟨Ext.refl _, fun _ _ h => h, Nat.le_refl _, Nat.le_of_eq hs.symm, fun k hk' hn => hk k (fun e => hn i oi bi hi hb hoi e.symm), fun j hj hn => ?_, fun j oj bj hj hbj => ?_⟩⟩
  · simp only [hg] at hj
    split at hj
    · rename_i e
      subst e
      cases hj
      exact ⟨bi, hb, by rw [hs]; exact hbs, ha, fun _ => hbl⟩
    · rename_i hne
      obtain ⟨bk, h1, h2, h3, h4⟩ := h.has j oj hj
      refine ⟨bk, h1, by rw [hs]; exact h2, AO.at_congr (hk _ fun e => hne (h.inj i j oi oj bi bk hi hj hoi hb h1 e.symm).symm) h3, h4⟩
  · simp only [hg] at h1 h2
    split at h1
    · rename_i e
      subst e
      split at h2
      · rename_i e2; exact e2.symm
      · exact h.inj _ _ oi ob' ba bb hi h2 hoi h4 h5 h6
    · split at h2
      · rename_i hne e
        subst e
        exact h.inj _ _ oa oi ba bb h1 hi h3 h4 h5 h6
      · exact h.inj _ _ _ _ _ _ h1 h2 h3 h4 h5 h6
  · exact ⟨ho.trans h.old.os, ht.trans h.old.tape, hp.trans h.old.output, by rw [hs]; exact h.old.size, fun k hk' => (hk k (by omega)).trans (h.old.block k hk')⟩
  · simp only [hg]
    split
    · rename_i e; subst e; rw [hi] at hn; cases hn
    · exact hn
  · simp only [hg] at hj
    split at hj
    · rename_i e; subst e
      exact .inr ⟨j, oi, bi, hi, hb, by rw [hb] at hbj; cases hbj; rfl, fun _ => hoi⟩
    · exact .inr ⟨j, oj, bj, hj, hbj, rfl, fun h => h⟩
/-- One more name. -/
def nameB (γ : Nm) (i : Nat) (bk : Bk) : Nm := fun j => if j = i then some bk else γ j
theorem nameB_ext {i : Nat} (h : γ i = none) (bk : Bk) : Ext γ (nameB γ i bk) := fun j x hj => by
  unfold nameB
  split
  · rename_i e; subst e; rw [h] at hj; cases hj
  · exact hj
theorem nameB_same {i : Nat} {bk : Bk} : nameB γ i bk i = some bk := by simp [nameB]
/-- A new block. -/
theorem Rel.new (h : Rel E W γ st w) {k : Nat} {nl : Option Addr} {o : Nat} (hx : st.x < 1000000000) (hs : w.heap.size < w'.heap.size) (hk : ∀ k, k < w.heap.size → w'.heap[k]? = w.heap[k]?) (ho : w'.os = w.os) (ht : w'.tape = w.tape) (hp : w'.output = w.output)
    (ha : ob.at_ E.P (nameB γ st.x ⟨w.heap.size, o, k, nl⟩) ⟨w.heap.size, o, k, nl⟩ w') :
    Rel E W (nameB γ st.x ⟨w.heap.size, o, k, nl⟩) ⟨st.h.put st.x (some ob), st.x + 1⟩ w' ∧ Goes γ (nameB γ st.x ⟨w.heap.size, o, k, nl⟩) st ⟨st.h.put st.x (some ob), st.x + 1⟩ w w' := by
  have hf := h.fresh st.x (Nat.le_refl _)
  have hext := nameB_ext hf ⟨w.heap.size, o, k, nl⟩
  have hg : ∀ j, (st.h.put st.x (some ob)).get j = if j = st.x then some ob else st.h.get j := fun j => Tr.get_put hx
  have hold := h.old.size
  refine ⟨⟨fun j hj => ?_, hx, fun g hg' => ?_, fun j oj hj => ?_, fun a b oa ob' ba bb h1 h2 h3 h4 h5 h6 => ?_, ?_⟩, ⟨hext, fun j hj hn => by unfold nameB; rw [if_neg (by omega)]; exact hn, Nat.le_succ _, Nat.le_of_lt hs, fun j hj _ => hk j hj, fun j hj hn => ?_, fun j oj bj hj hbj => ?_⟩⟩
  · unfold nameB
    rw [if_neg (by simp only at hj; omega)]
    exact h.fresh j (by simp only at hj; omega)
  · obtain ⟨k', nl', e⟩ := h.glob g hg'
    exact ⟨k', nl', hext _ _ e⟩
  · simp only [hg] at hj
    split at hj
    · rename_i e
      subst e
      cases hj
      exact ⟨_, nameB_same, hs, ha, fun _ => hold⟩
    · obtain ⟨bk, h1, h2, h3, h4⟩ := h.has j oj hj
      exact ⟨bk, hext _ _ h1, by omega, AO.at_congr (hk _ h2) (AO.at_ext hext h3), h4⟩
  · simp only [hg] at h1 h2
    split at h1
    · rename_i e
      subst e
      split at h2
      · rename_i e2; exact e2.symm
      · obtain ⟨bk, e1, e2, _⟩ := h.has b ob' h2
        rw [hext _ _ e1] at h5; cases h5
        rw [nameB_same] at h4; cases h4
        simp only at h6; omega
    · obtain ⟨bk, e1, e2, _⟩ := h.has a oa h1
      rw [hext _ _ e1] at h4; cases h4
      split at h2
      · rename_i e
        subst e
        rw [nameB_same] at h5; cases h5
        simp only at h6; omega
      · obtain ⟨bk', e1', e2', _⟩ := h.has b ob' h2
        rw [hext _ _ e1'] at h5; cases h5
        exact h.inj _ _ _ _ _ _ h1 h2 h3 e1 e1' h6
  · exact ⟨ho.trans h.old.os, ht.trans h.old.tape, hp.trans h.old.output, by omega, fun k hk' => (hk k (by omega)).trans (h.old.block k hk')⟩
  · simp only [hg]
    rw [if_neg (by omega)]
    exact hn
  · simp only [hg] at hj
    split at hj
    · rename_i e; subst e
      rw [nameB_same] at hbj; cases hbj
      exact .inl (Nat.le_refl _)
    · obtain ⟨bk, e1, e2, _⟩ := h.has j oj hj
      rw [hext _ _ e1] at hbj; cases hbj
      exact .inr ⟨j, oj, _, hj, e1, rfl, fun h => h⟩
/-- A block is dropped. -/
theorem Rel.kill (h : Rel E W γ st w) {i : Nat} {oi : AO} (hi : st.h.get i = some oi) : Rel E W γ ⟨st.h.put i none, st.x⟩ w ∧ Goes γ γ st ⟨st.h.put i none, st.x⟩ w w := by
  have hlt := h.lt hi
  have hsm := h.small
  have hg : ∀ j, (st.h.put i none).get j = if j = i then none else st.h.get j := fun j => Tr.get_put (by omega)
  refine ⟨⟨h.fresh, h.small, h.glob, fun j oj hj => ?_, fun a b oa ob' ba bb h1 h2 h3 h4 h5 h6 => ?_, h.old⟩, ⟨Ext.refl _, fun _ _ h => h, Nat.le_refl _, Nat.le_refl _, fun k hk' hn => rfl, fun j hj hn => ?_, fun j oj bj hj hbj => ?_⟩⟩
  · simp only [hg] at hj
    split at hj
    · cases hj
    · exact h.has j oj hj
  · simp only [hg] at h1 h2
    split at h1
    · cases h1
    · split at h2
      · cases h2
      · exact h.inj _ _ _ _ _ _ h1 h2 h3 h4 h5 h6
  · simp only [hg]
    split
    · rfl
    · exact hn
  · simp only [hg] at hj
    split at hj
    · cases hj
    · exact .inr ⟨j, oj, bj, hj, hbj, rfl, fun h => h⟩
theorem list_cells {l : List AV} (ha : ob.at_ P γ bk w) (hl : ob.list = some l) : ∃ vs, concL γ l = some vs ∧ ∀ j v, vs[j]? = some v → w.cell? ⟨bk.b, bk.o + j, none⟩ = some v := by
  cases ob with
  | cells l' e g =>
    simp only [AO.list, Option.some.injEq] at hl
    subst hl
    obtain ⟨h1, _, vs, ex, h3, h4, _⟩ := ha
    refine ⟨vs, h3, fun j v hj => ?_⟩
    unfold World.cell?
    simp only [h4, h1, Nat.zero_add]
    have hlt := (List.getElem?_eq_some_iff.1 hj).1
    simp [List.getElem?_append, hlt]
    simpa [hlt] using hj
  | ro l' =>
    simp only [AO.list, Option.some.injEq] at hl
    subst hl
    exact ha
  | map es => simp [AO.list] at hl
  | iter m => simp [AO.list] at hl
theorem rd_ok (h : Rel E W γ st w) {i o n : Nat} {l : List AV} (hr : rd st i o n = some l) : ∃ bk vs, γ i = some bk ∧ concL γ l = some vs ∧ vs.length = n ∧ ∀ j v, vs[j]? = some v → w.cell? ⟨bk.b, bk.o + o + j, none⟩ = some v := by
  unfold rd at hr
  split at hr
  · simp at hr
  · rename_i ob hob
    split at hr
    · simp at hr
    · rename_i l' hl
      cases hb : Nat.ble (o + n) l'.length with
      | false => rw [hb] at hr; simp at hr
      | true =>
        rw [hb] at hr
        simp only [cond_true, Option.some.injEq] at hr
        subst hr
        have hle := ble_le hb
        obtain ⟨bk, h1, h2, h3, h4⟩ := h.has i ob hob
        obtain ⟨vs, hv, hc⟩ := list_cells h3 hl
        have hlen := concL_len hv
        refine ⟨bk, _, h1, concL_take n (concL_drop o hv), by simp; omega, fun j v hj => ?_⟩
        rw [List.getElem?_take] at hj
        split at hj
        · rw [List.getElem?_drop] at hj
          rw [Nat.add_assoc]
          exact hc _ _ hj
        · cases hj
theorem run_load1 {a : Addr} {v : Value} (h : w.cell? a = some v) : (load a).run P w = .ok v w := by simp [h]
theorem run_cells {b o : Nat} {vs : List Value} (h : ∀ j v, vs[j]? = some v → w.cell? ⟨b, o + j, none⟩ = some v) {n : Nat} (hn : vs.length = n) : (loadCells ⟨b, o, none⟩ n).run P w = .ok vs.toArray w := by
  subst hn
  exact run_loadCells_list w _ vs (fun j v hj => by rw [Addr.add_lit]; exact h j v hj)
theorem ld_ok (h : Rel E W γ st w) {t : TypeId} {x r : AV} {v : Value} (hl : ldA E st t x = some r) (hv : conc γ x = some v) : ∃ a q, v = .pointer (some a) ∧ (loadVar t a).run E.P w = .ok q w ∧ conc γ r = some q := by
  unfold ldA at hl
  split at hl
  · rename_i i o n ha hg hs
    simp only [Option.map_eq_some_iff] at hl
    obtain ⟨l, hr, rfl⟩ := hl
    obtain ⟨bk, hb, rfl⟩ := addr_ok h.glob ha hv
    obtain ⟨bk', vs, hb', hc, hlen, hcell⟩ := rd_ok h hr
    rw [hb] at hb'; cases hb'
    refine ⟨_, .agg vs.toArray, rfl, ?_, by simp [conc, hc]⟩
    simp only [loadVar, Sem.run_bind, run_agg hg, Result.andThen_ok, if_true, run_sz hs, run_cells hcell hlen, Sem.run_pure]
  · rename_i i o ha hg
    simp only [Option.bind_eq_some_iff] at hl
    obtain ⟨l, hr, hh⟩ := hl
    obtain ⟨bk, hb, rfl⟩ := addr_ok h.glob ha hv
    obtain ⟨bk', vs, hb', hc, hlen, hcell⟩ := rd_ok h hr
    rw [hb] at hb'; cases hb'
    cases l with
    | nil => simp at hh
    | cons y l =>
      simp only [List.head?_cons, Option.some.injEq] at hh
      subst hh
      obtain ⟨q, rs, hq, _, rfl⟩ := concL_cons.1 hc
      have := hcell 0 q (by simp)
      refine ⟨_, q, rfl, ?_, hq⟩
      simp only [loadVar, Sem.run_bind, run_agg hg, Result.andThen_ok, Bool.false_eq_true, if_false]
      exact run_load1 (by simpa using this)
  · simp at hl
end
end Go.Proofs.YtgpgmmkkmoecmaaGreatDoor
