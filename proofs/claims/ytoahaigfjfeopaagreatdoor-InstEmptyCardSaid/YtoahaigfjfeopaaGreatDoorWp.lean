/- scan.token. -/
import Derived.Test.YtoahaigfjfeopaaGreatDoorWo
import Derived.Laws.ResultCell
namespace Go.Proofs.YtoahaigfjfeopaaGreatDoor
open Go.RowKit

def tokV (t : Tok) : Value := .agg #[.int .i64 t.kind, .string ⟨t.text.toArray⟩, .int .i64 t.n, .int .i64 t.at_]
/-- What scan.token answers. -/
def TokPost (l : List UInt8) (e : Ending) : Prop :=
  match tokenP l with
  | .ok (t, k) => e = .returned (.tuple #[tokV t, .int .i64 k, .int .i64 0])
  | .error x => ∃ t, e = .returned (.tuple #[tokV t, .int .i64 0, .int .i64 x])

set_option maxRecDepth 100000 in
theorem token_sign (c : UInt8) (r : List UInt8) (w : World) (hl : (c :: r).length ≤ 140737488355328) (hs : isSign c = true) : Calls Tryz.prog 68 #[.string ⟨(c :: r).toArray⟩] w fun e w' => TokPost (c :: r) e ∧ Below w.heap.size w w' := by
  have hP : tokenP (c :: r) = .ok (⟨3, [c], 0, 0⟩, 1) := by
    simp only [tokenP]; rw [if_pos (of_decide_eq_true hs)]
  have hb : ∀ h', (ByteArray.mk (c :: r).toArray)[0]'h' = c := byte_nth (c :: r) 0 (by simp)
  have hi : 0 ≤ Lib.indexByte [58, 44, 59] c := of_decide_eq_true ((index_sign c).trans hs)
  have hx : (ByteArray.mk (c :: r).toArray).extract 0 1 = ByteArray.mk [c].toArray := by rw [extract_take]; rfl
  have h0 : 1 ≤ (c :: r).length := by simp
  have HP : Hid (∀ e, TokPost (c :: r) e ↔ e = .returned (.tuple #[.agg #[.int .i64 3, .string ⟨[c].toArray⟩, .int .i64 0, .int .i64 0], .int .i64 1, .int .i64 0])) := Lib.hid (by intro e; unfold TokPost; rw [hP]; exact Iff.rfl)
  clear hs hP
  generalize c :: r = l at *
  go_enter Tryz.func68, Tryz.ntmps68
  go_wp2_with (go_at_call 94; refine (indexByte_any [58, 44, 59] _ _).mono ?_; rintro e w' ⟨rfl, rfl⟩)
  refine bodyPost_ret (v := .tuple #[.agg #[.int .i64 3, .string ⟨[c].toArray⟩, .int .i64 0, .int .i64 0], .int .i64 1, .int .i64 0]) (by simp [results, Tryz.results68, go_sem]) rfl ?_
  exact ⟨(HP.out _).2 rfl, (below_alloc1 _ _)⟩

theorem not_sign {c : UInt8} (h : isSign c = false) : ¬ (c.toNat = 58 ∨ c.toNat = 44 ∨ c.toNat = 59) := of_decide_eq_false h
set_option maxRecDepth 100000 in
theorem token_word (c : UInt8) (r : List UInt8) (w : World) (hl : (c :: r).length ≤ 140737488355328) (hs : isSign c = false) (hw : isLetter c = true) : Calls Tryz.prog 68 #[.string ⟨(c :: r).toArray⟩] w fun e w' => TokPost (c :: r) e ∧ Below w.heap.size w w' := by
  have hP : tokenP (c :: r) = .ok (⟨1, (c :: r).take (runP isLetter (c :: r)), 0, 0⟩, runP isLetter (c :: r)) := by
    simp only [tokenP]; rw [if_neg (not_sign hs), if_pos hw]
  have hb : ∀ h', (ByteArray.mk (c :: r).toArray)[0]'h' = c := byte_nth (c :: r) 0 (by simp)
  have hi : ¬ 0 ≤ Lib.indexByte [58, 44, 59] c := of_decide_eq_false ((index_sign c).trans hs)
  have h0 : 1 ≤ (c :: r).length := by simp
  have HP : Hid (∀ e, TokPost (c :: r) e ↔ e = .returned (.tuple #[.agg #[.int .i64 1, .string ⟨((c :: r).take (runP isLetter (c :: r))).toArray⟩, .int .i64 0, .int .i64 0], .int .i64 (runP isLetter (c :: r)), .int .i64 0])) := Lib.hid (by intro e; unfold TokPost; rw [hP]; exact Iff.rfl)
  clear hs hP
  generalize c :: r = l at *
  have hrun0 := fun W => run_letter l W hl
  have hrl := runP_le isLetter l
  have hex := extract_take l (runP isLetter l)
  generalize runP isLetter l = k at *
  have hrun := Lib.hid hrun0
  clear hrun0
  go_enter Tryz.func68, Tryz.ntmps68
  go_wp2_with (first
    | (go_at_call 94; refine (indexByte_any [58, 44, 59] _ _).mono ?_; rintro e w' ⟨rfl, rfl⟩)
    | (go_at_call 97; refine (letter_u _ _).mono ?_; rintro e w' ⟨rfl, rfl⟩; rw [hw])
    | (go_at_call 95; refine (hrun.out _).mono ?_; rintro e w' ⟨rfl, rfl⟩))
  refine bodyPost_ret (v := .tuple #[.agg #[.int .i64 1, .string ⟨(l.take k).toArray⟩, .int .i64 0, .int .i64 0], .int .i64 k, .int .i64 0]) (by simp [results, Tryz.results68, go_sem]) rfl ?_
  exact ⟨(HP.out _).2 rfl, (below_alloc1 _ _)⟩
set_option maxRecDepth 100000 in
theorem token_bad (c : UInt8) (r : List UInt8) (w : World) (hl : (c :: r).length ≤ 140737488355328) (hs : isSign c = false) (hw : isLetter c = false) (hd : isDigit c = false) (hm : ¬ c.toNat = 45) : Calls Tryz.prog 68 #[.string ⟨(c :: r).toArray⟩] w fun e w' => TokPost (c :: r) e ∧ Below w.heap.size w w' := by
  have hP : tokenP (c :: r) = .error 2 := by
    simp only [tokenP]; rw [if_neg (not_sign hs), if_neg (by rw [hw]; decide), if_neg (by rw [hd]; simpa using hm)]
  have hb : ∀ h', (ByteArray.mk (c :: r).toArray)[0]'h' = c := byte_nth (c :: r) 0 (by simp)
  have hi : ¬ 0 ≤ Lib.indexByte [58, 44, 59] c := of_decide_eq_false ((index_sign c).trans hs)
  have h0 : 1 ≤ (c :: r).length := by simp
  have hq : ((c.toNat : Int) == 45) = false := by simp; omega
  have HP : Hid (∀ e, TokPost (c :: r) e ↔ ∃ t, e = .returned (.tuple #[tokV t, .int .i64 0, .int .i64 2])) := Lib.hid (by intro e; unfold TokPost; rw [hP])
  clear hs hP hm
  generalize c :: r = l at *
  go_enter Tryz.func68, Tryz.ntmps68
  go_wp2_with (first
    | (go_at_call 94; refine (indexByte_any [58, 44, 59] _ _).mono ?_; rintro e w' ⟨rfl, rfl⟩)
    | (go_at_call 97; refine (letter_u _ _).mono ?_; rintro e w' ⟨rfl, rfl⟩; rw [hw])
    | (go_at_call 98; refine (digit_u _ _).mono ?_; rintro e w' ⟨rfl, rfl⟩; rw [hd]))
  refine bodyPost_ret (v := .tuple #[.agg #[.int .i64 0, .string ⟨#[]⟩, .int .i64 0, .int .i64 0], .int .i64 0, .int .i64 2]) (by simp [results, Tryz.results68, go_sem]) rfl ?_
  exact ⟨(HP.out _).2 ⟨⟨0, [], 0, 0⟩, rfl⟩, (below_alloc1 _ _)⟩
set_option maxRecDepth 100000 in
theorem token_num (c : UInt8) (r : List UInt8) (w : World) (hE : Env0 w) (h8 : 8 ≤ w.heap.size) (hl : (c :: r).length ≤ 140737488355328) (hs : isSign c = false) (hw : isLetter c = false) (hd : isDigit c = true ∨ c.toNat = 45) : Calls Tryz.prog 68 #[.string ⟨(c :: r).toArray⟩] w fun e w' => TokPost (c :: r) e ∧ Below w.heap.size w w' := by
  have hP : tokenP (c :: r) = match numP (c :: r) with | .ok (n, k) => .ok (⟨2, [], n, 0⟩, k) | .error e => .error e := by
    simp only [tokenP]; rw [if_neg (not_sign hs), if_neg (by rw [hw]; decide), if_pos hd]; rfl
  have hb : ∀ h', (ByteArray.mk (c :: r).toArray)[0]'h' = c := byte_nth (c :: r) 0 (by simp)
  have hi : ¬ 0 ≤ Lib.indexByte [58, 44, 59] c := of_decide_eq_false ((index_sign c).trans hs)
  have h0 : 1 ≤ (c :: r).length := by simp
  have hq : isDigit c = false → ((c.toNat : Int) == 45) = true := by intro h; rcases hd with h' | h'; (rw [h] at h'; cases h'); simp [h']
  have HP : Hid (∃ n k x, numR (c :: r) = .tuple #[.int .i64 n, .int .i64 k, .int .i64 x] ∧ TokPost (c :: r) (.returned (.tuple #[.agg #[.int .i64 2, .string ⟨#[]⟩, .int .i64 n, .int .i64 0], .int .i64 k, .int .i64 x]))) := by
    apply Lib.hid
    unfold TokPost numR
    rw [hP]
    cases hn : numP (c :: r) with
    | ok p => obtain ⟨n, k⟩ := p; exact ⟨n, k, 0, rfl, rfl⟩
    | error x => exact ⟨0, 0, x, rfl, ⟨⟨2, [], 0, 0⟩, rfl⟩⟩
  clear hs hP hd
  have hE' : Env0 (w.alloc (.cells #[.int .i64 2, .string ⟨#[]⟩, .int .i64 0, .int .i64 0] 83)) := hE.below (below_alloc1 _ _) h8
  generalize c :: r = l at *
  obtain ⟨n, k, x, hn, hpost⟩ := HP.out
  have hcall0 := number_any l _ hE' hl
  rw [hn] at hcall0
  have hcall := Lib.hid hcall0
  have HQ := Lib.hid hpost
  clear hn hpost HP hcall0 hE'
  cases hdig : isDigit c
  · have hq' := hq hdig
    clear hq
    go_enter Tryz.func68, Tryz.ntmps68
    go_wp2_with (first
      | (go_at_call 94; refine (indexByte_any [58, 44, 59] _ _).mono ?_; rintro e w' ⟨rfl, rfl⟩)
      | (go_at_call 97; refine (letter_u _ _).mono ?_; rintro e w' ⟨rfl, rfl⟩; rw [hw])
      | (go_at_call 98; refine (digit_u _ _).mono ?_; rintro e w' ⟨rfl, rfl⟩; rw [hdig])
      | (go_at_call 99; refine hcall.out.mono ?_; rintro e W ⟨rfl, hb⟩; (have hblk := block_kept hb (heap_alloc_new w _)); (have c0 := cell_at hblk (i := 0) rfl); (have c1 := cell_at hblk (i := 1) rfl); (have c2 := cell_at hblk (i := 2) rfl); (have c3 := cell_at hblk (i := 3) rfl); (have f0 := Lib.frozen_of_heap hblk 0); (have f1 := Lib.frozen_of_heap hblk 1); (have f2 := Lib.frozen_of_heap hblk 2); (have f3 := Lib.frozen_of_heap hblk 3); (have hb' := Lib.hid hb); clear hb hblk))
    refine bodyPost_ret (v := .tuple #[.agg #[.int .i64 2, .string ⟨#[]⟩, .int .i64 n, .int .i64 0], .int .i64 k, .int .i64 x]) (by simp [results, Tryz.results68, go_sem, *]) rfl ?_
    refine ⟨HQ.out, ?_⟩
    have hbb := below_next (below_alloc1 w (.cells #[.int .i64 2, .string ⟨#[]⟩, .int .i64 0, .int .i64 0] 83)) hb'.out
    exact (((((hbb.setCell (p := ⟨w.heap.size, 2, none⟩) (Nat.le_refl _) _).setCell (p := ⟨w.heap.size, 0, none⟩) (Nat.le_refl _) _).setCell (p := ⟨w.heap.size, 1, none⟩) (Nat.le_refl _) _).setCell (p := ⟨w.heap.size, 2, none⟩) (Nat.le_refl _) _).setCell (p := ⟨w.heap.size, 3, none⟩) (Nat.le_refl _) _)
  · clear hq
    go_enter Tryz.func68, Tryz.ntmps68
    go_wp2_with (first
      | (go_at_call 94; refine (indexByte_any [58, 44, 59] _ _).mono ?_; rintro e w' ⟨rfl, rfl⟩)
      | (go_at_call 97; refine (letter_u _ _).mono ?_; rintro e w' ⟨rfl, rfl⟩; rw [hw])
      | (go_at_call 98; refine (digit_u _ _).mono ?_; rintro e w' ⟨rfl, rfl⟩; rw [hdig])
      | (go_at_call 99; refine hcall.out.mono ?_; rintro e W ⟨rfl, hb⟩; (have hblk := block_kept hb (heap_alloc_new w _)); (have c0 := cell_at hblk (i := 0) rfl); (have c1 := cell_at hblk (i := 1) rfl); (have c2 := cell_at hblk (i := 2) rfl); (have c3 := cell_at hblk (i := 3) rfl); (have f0 := Lib.frozen_of_heap hblk 0); (have f1 := Lib.frozen_of_heap hblk 1); (have f2 := Lib.frozen_of_heap hblk 2); (have f3 := Lib.frozen_of_heap hblk 3); (have hb' := Lib.hid hb); clear hb hblk))
    refine bodyPost_ret (v := .tuple #[.agg #[.int .i64 2, .string ⟨#[]⟩, .int .i64 n, .int .i64 0], .int .i64 k, .int .i64 x]) (by simp [results, Tryz.results68, go_sem, *]) rfl ?_
    refine ⟨HQ.out, ?_⟩
    have hbb := below_next (below_alloc1 w (.cells #[.int .i64 2, .string ⟨#[]⟩, .int .i64 0, .int .i64 0] 83)) hb'.out
    exact (((((hbb.setCell (p := ⟨w.heap.size, 2, none⟩) (Nat.le_refl _) _).setCell (p := ⟨w.heap.size, 0, none⟩) (Nat.le_refl _) _).setCell (p := ⟨w.heap.size, 1, none⟩) (Nat.le_refl _) _).setCell (p := ⟨w.heap.size, 2, none⟩) (Nat.le_refl _) _).setCell (p := ⟨w.heap.size, 3, none⟩) (Nat.le_refl _) _)

theorem token_any (c : UInt8) (r : List UInt8) (w : World) (hE : Env0 w) (h8 : 8 ≤ w.heap.size) (hl : (c :: r).length ≤ 140737488355328) : Calls Tryz.prog 68 #[.string ⟨(c :: r).toArray⟩] w fun e w' => TokPost (c :: r) e ∧ Below w.heap.size w w' := by
  cases hs : isSign c
  · cases hw : isLetter c
    · by_cases hd : isDigit c = true ∨ c.toNat = 45
      · exact token_num c r w hE h8 hl hs hw hd
      · have h1 : isDigit c = false := Bool.eq_false_iff.2 fun h => hd (.inl h)
        exact token_bad c r w hl hs hw h1 fun h => hd (.inr h)
    · exact token_word c r w hl hs hw
  · exact token_sign c r w hl hs
theorem token_ok (c : UInt8) (r : List UInt8) (w : World) (hE : Env0 w) (h8 : 8 ≤ w.heap.size) (hl : (c :: r).length ≤ 140737488355328) {t : Tok} {k : Nat} (h : tokenP (c :: r) = .ok (t, k)) :
    Calls Tryz.prog 68 #[.string ⟨(c :: r).toArray⟩] w fun e w' => e = .returned (.tuple #[.agg #[.int .i64 t.kind, .string ⟨t.text.toArray⟩, .int .i64 t.n, .int .i64 t.at_], .int .i64 k, .int .i64 0]) ∧ Below w.heap.size w w' := by
  refine (token_any c r w hE h8 hl).mono ?_
  rintro e w' ⟨hp, hb⟩
  unfold TokPost at hp
  rw [h] at hp
  exact ⟨hp, hb⟩
theorem token_err (c : UInt8) (r : List UInt8) (w : World) (hE : Env0 w) (h8 : 8 ≤ w.heap.size) (hl : (c :: r).length ≤ 140737488355328) {x : Int} (h : tokenP (c :: r) = .error x) :
    Calls Tryz.prog 68 #[.string ⟨(c :: r).toArray⟩] w fun e w' => (∃ k0 t0 n0 a0, e = .returned (.tuple #[.agg #[.int .i64 k0, .string t0, .int .i64 n0, .int .i64 a0], .int .i64 0, .int .i64 x])) ∧ Below w.heap.size w w' := by
  refine (token_any c r w hE h8 hl).mono ?_
  rintro e w' ⟨hp, hb⟩
  unfold TokPost at hp
  rw [h] at hp
  obtain ⟨t, hp⟩ := hp
  exact ⟨⟨_, _, _, _, hp⟩, hb⟩
end Go.Proofs.YtoahaigfjfeopaaGreatDoor
