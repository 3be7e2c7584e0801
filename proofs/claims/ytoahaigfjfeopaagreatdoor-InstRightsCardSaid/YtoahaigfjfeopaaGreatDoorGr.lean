/- Texts joined: Wbb Wbc Wbd Wbe Wbf Rq. -/
import Derived.Test.YtoahaigfjfeopaaGreatDoorGi
import Derived.Test.YtoahaigfjfeopaaGreatDoorGk
import Derived.Test.YtoahaigfjfeopaaGreatDoorGb
import Derived.Test.YtoahaigfjfeopaaGreatDoorGq
import Derived.Test.YtoahaigfjfeopaaGreatDoorGj
import Derived.Deep.CutBlock
import Derived.Test.YtoahaigfjfeopaaGreatDoorGp
import Derived.Test.YtoahaigfjfeopaaGreatDoorGo
/- arboristref06.numbers. -/
namespace Go.Proofs.YtoahaigfjfeopaaGreatDoor
open Go.RowKit
attribute [local irreducible] wpStill wpLex Calls

theorem Fits.take {l : List Int} (h : Fits l) (k : Nat) : Fits (l.take k) := fun j hj => by
  rw [List.length_take] at hj
  have e : nth 0 (l.take k) j = nth 0 l j := by simp [nth, List.getD_eq_getElem?_getD, List.getElem?_take_of_lt (show j < k by omega)]
  rw [e]; exact h j (by omega)
theorem nums_size (l : List Int) (h : Fits l) : (numsP l).length ≤ 15 * l.length := by
  have := nums_len l h
  simpa using this
def NumRel (xs : List Int) (w : World) (g : Nat) (s i : Value) (wr : World) : Prop :=
  ∃ k : Nat, ∃ sb : ByteArray, i = .int .i64 k ∧ k ≤ xs.length ∧ s = .string sb ∧ Hid (sb = ⟨(numsP (xs.take k)).toArray⟩) ∧ sb.size ≤ 15 * k ∧ Hid (Below w.heap.size w wr) ∧ g = xs.length - k
set_option maxRecDepth 100000 in
set_option maxHeartbeats 4000000 in
theorem refnums_any (v : Value) (xs : List Int) (ok : Nat → Prop) (w : World) (h1 : Sl (Kd.int .i64) w ok v xs) (hf : Fits xs) :
    Calls Tryz.prog 40 #[v] w fun e w' => e = .returned (.string ⟨(numsP xs).toArray⟩) ∧ Below w.heap.size w w' := by
  have H1 := Lib.hid h1
  have HF := Lib.hid hf
  obtain ⟨A, c, rfl, hc, hm, _⟩ := h1
  clear hf
  go_enter Tryz.func40, Tryz.ntmps40
  go_wp2_with fail
  go_loopg [3, 4] xs.length (fun g s i wr => NumRel xs w g s i wr)
  case atStart => exact ⟨0, _, rfl, Nat.zero_le _, rfl, Lib.hid rfl, Nat.le_refl _, Lib.hid (Below.refl _ _), rfl⟩
  case round =>
    obtain ⟨k, sb, rfl, hk, rfl, hs, hz, HB, hg⟩ := hrel
    have HG := Lib.hid hg
    clear hg
    by_cases hlt : k < xs.length
    · obtain ⟨b, o, rfl, c0⟩ := H1.out.elems.num hlt
      have c1 := cell_kept HB.out c0
      have hfk := HF.out k hlt
      have HN := Lib.hid (refnum_any (nth 0 xs k) wr (by have := hfk.1; omega) (by have := hfk.2; omega))
      have hdl := itoa_len hfk
      have HQ : Hid (sb ++ ⟨#[32]⟩ ++ ⟨(Lib.itoa (nth 0 xs k)).toArray⟩ = ⟨(numsP (xs.take (k + 1))).toArray⟩) := Lib.hid (by
        rw [numsP_snoc xs k hlt, hs.out, show (⟨#[32]⟩ : ByteArray) = ⟨[32].toArray⟩ from rfl, ba_app, ba_app, List.append_assoc]; rfl)
      have hds : (⟨(Lib.itoa (nth 0 xs k)).toArray⟩ : ByteArray).size ≤ 14 := by rw [size_mk]; exact hdl
      generalize (⟨(Lib.itoa (nth 0 xs k)).toArray⟩ : ByteArray) = ds at *
      clear hfk hdl hs
      go_wp2_with (go_at_call 20; refine HN.out.mono ?_; rintro e w2 ⟨rfl, hb⟩; (have HB2 := Lib.hid (below_next HB.out hb)); clear hb HB HN)
      go_roundg (xs.length - (k + 1))
      case rel => exact ⟨k + 1, _, by go_num, by omega, rfl, HQ, by have : (ByteArray.mk #[32]).size = 1 := rfl; rw [ByteArray.size_append, ByteArray.size_append]; omega, HB2, rfl⟩
      case measure => have := HG.out; omega
    · obtain rfl : k = xs.length := by omega
      have hs2 := hs.out
      rw [List.take_of_length_le (Nat.le_refl _)] at hs2
      have HS2 := Lib.hid hs2
      clear hs hs2
      go_wp2_with fail
      go_ret
      exact ⟨ret_str HS2.out, HB.out⟩
end Go.Proofs.YtoahaigfjfeopaaGreatDoor

/- arboristref06.line of a linear constraint. -/
namespace Go.Proofs.YtoahaigfjfeopaaGreatDoor
open Go.RowKit
attribute [local irreducible] wpStill wpLex wpLexO wpPlan Calls

theorem words_cell {W : World} {g : Nat} (h : W.heap[g]? = some (.cells #[.string ⟨#[]⟩, .string ⟨#[116, 97, 98, 108, 101]⟩, .string ⟨#[102, 111, 114, 98, 105, 100]⟩, .string ⟨#[100, 105, 102, 102]⟩, .string ⟨#[101, 113, 117, 97, 108]⟩, .string ⟨#[114, 105, 115, 105, 110, 103]⟩, .string ⟨#[108, 105, 110, 101, 97, 114]⟩] 9)) (k : Int) (h1 : 1 ≤ k) (h6 : k ≤ 6) : W.cell? ⟨g, k.toNat, none⟩ = some (.string ⟨(nth [] wordsT k.toNat).toArray⟩) := by
  have : k = 1 ∨ k = 2 ∨ k = 3 ∨ k = 4 ∨ k = 5 ∨ k = 6 := by omega
  rcases this with rfl | rfl | rfl | rfl | rfl | rfl <;> exact cell_at h rfl
theorem hows_cell {W : World} {g : Nat} (h : W.heap[g]? = some (.cells #[.string ⟨#[32, 101, 113]⟩, .string ⟨#[32, 108, 101]⟩, .string ⟨#[32, 110, 101]⟩] 9)) (k : Int) (h1 : 0 ≤ k) (h6 : k ≤ 2) : W.cell? ⟨g, k.toNat, none⟩ = some (.string ⟨(32 :: nth [] howsT k.toNat).toArray⟩) := by
  have : k = 0 ∨ k = 1 ∨ k = 2 := by omega
  rcases this with rfl | rfl | rfl <;> exact cell_at h rfl
def LinsRel (c : Con) (W1 : World) (wd : List UInt8) (g : Nat) (s i : Value) (wr : World) : Prop :=
  ∃ k : Nat, ∃ sb : ByteArray, i = .int .i64 k ∧ k ≤ c.scope.length ∧ s = .string sb ∧ Hid (sb = ⟨(wd ++ linP 0 (c.args.take k) (c.scope.take k)).toArray⟩) ∧ Hid (Below W1.heap.size W1 wr) ∧ g = c.scope.length - k
def RwsRel (c : Con) (W1 : World) (wd : List UInt8) (g : Nat) (s i : Value) (wr : World) : Prop :=
  ∃ k : Nat, ∃ sb : ByteArray, i = .int .i64 k ∧ k ≤ c.rows.length ∧ s = .string sb ∧ Hid (sb = ⟨(wd ++ rowsP 0 (c.rows.take k)).toArray⟩) ∧ Hid (Below W1.heap.size W1 wr) ∧ g = c.rows.length - k
theorem sl_last {k : IntKind} {w : World} {ok : Nat → Prop} {b o c n : Nat} {xs : List Int} (h : Sl (Kd.int k) w ok (.slice (some ⟨b, o, none⟩) xs.length c) xs) (hn : xs.length = n + 2) : Sl (Kd.int k) w ok (.slice (some ⟨b, o + (n + 1), none⟩) (xs.length - (n + 1)) (c - (n + 1))) [nth 0 xs (n + 1)] := by
  have he := h.elems
  obtain ⟨A, c', hv, hc, hm, _⟩ := h
  injection hv with _ _ hcc
  subst hcc
  refine ⟨some ⟨b, o + (n + 1), none⟩, c - (n + 1), by rw [show xs.length - (n + 1) = 1 by omega]; rfl, by simp only [List.length_cons, List.length_nil]; omega, by simp only [List.length_cons, List.length_nil]; omega, ?_⟩
  intro j x hx
  have hj : j = 0 := by
    have := (List.getElem?_eq_some_iff.1 hx).1
    simpa using this
  subst hj
  obtain rfl : nth 0 xs (n + 1) = x := by simpa using hx
  obtain ⟨b', o', cs, hA, hok, hk, hcell⟩ := he (n + 1) _ (nth_get 0 xs (n + 1) (by omega))
  injection hA with hA
  injection hA with hb ho
  subst hb ho
  refine ⟨b, o + (n + 1), cs, rfl, hok, hk, fun i u hu => ?_⟩
  have := hcell i u hu
  have e : (Kd.int k).sz = 1 := rfl
  rw [e] at this ⊢
  rw [← this]
  congr 2
  omega
set_option maxRecDepth 100000 in
set_option maxHeartbeats 8000000 in
theorem refline_lin (vs vr va : Value) (c : Con) (ok : Nat → Prop) (w : World) (h1 : Sl (Kd.int .i64) w ok vs c.scope) (h2 : Sl kRow w ok vr c.rows) (h3 : Sl (Kd.int .i64) w ok va c.args) (hf : fitSt (.hard c)) (hlen : (hardP c).length ≤ 140737488355328) (hq : c.kind = 6) :
    Calls Tryz.prog 41 #[.agg #[.int .i64 c.kind, vs, vr, va]] w fun e w' => e = .returned (.string ⟨(hardP c ++ endT).toArray⟩) ∧ Below w.heap.size w w' := by
  have HQ6 := Lib.hid hq
  have HF6 := Lib.hid (hf.2.2.2.2.2 hq)
  clear hq
  obtain ⟨k1, k6, fs, fa, fr, f6⟩ := hf
  obtain ⟨As, cs, rfl, hcs, hms, hAs⟩ := h1
  obtain ⟨Ar, cr, rfl, hcr, hmr, hAr⟩ := h2
  obtain ⟨Aa, ca, rfl, hca, hma, hAa⟩ := h3
  have hb0 := below_next (below_alloc1 w (.cells #[.int .i64 c.kind, .slice As c.scope.length cs, .slice Ar c.rows.length cr, .slice Aa c.args.length ca] 43)) (below_alloc1 _ (.cells #[.string ⟨#[]⟩, .string ⟨#[116, 97, 98, 108, 101]⟩, .string ⟨#[102, 111, 114, 98, 105, 100]⟩, .string ⟨#[100, 105, 102, 102]⟩, .string ⟨#[101, 113, 117, 97, 108]⟩, .string ⟨#[114, 105, 115, 105, 110, 103]⟩, .string ⟨#[108, 105, 110, 101, 97, 114]⟩] 9))
  have HB := Lib.hid hb0
  have HS := Lib.hid (Sl.below (v := .slice As c.scope.length cs) (xs := c.scope) (by decide) ⟨As, cs, rfl, hcs, hms, hAs⟩ hb0)
  have HR := Lib.hid (Sl.below (v := .slice Ar c.rows.length cr) (xs := c.rows) (by decide) ⟨Ar, cr, rfl, hcr, hmr, hAr⟩ hb0)
  have HA := Lib.hid (Sl.below (v := .slice Aa c.args.length ca) (xs := c.args) (by decide) ⟨Aa, ca, rfl, hca, hma, hAa⟩ hb0)
  have hc := block_kept (below_alloc1 _ (.cells #[.string ⟨#[]⟩, .string ⟨#[116, 97, 98, 108, 101]⟩, .string ⟨#[102, 111, 114, 98, 105, 100]⟩, .string ⟨#[100, 105, 102, 102]⟩, .string ⟨#[101, 113, 117, 97, 108]⟩, .string ⟨#[114, 105, 115, 105, 110, 103]⟩, .string ⟨#[108, 105, 110, 101, 97, 114]⟩] 9)) (heap_alloc_new w (.cells #[.int .i64 c.kind, .slice As c.scope.length cs, .slice Ar c.rows.length cr, .slice Aa c.args.length ca] 43))
  have hwd : ((w.alloc (.cells #[.int .i64 c.kind, .slice As c.scope.length cs, .slice Ar c.rows.length cr, .slice Aa c.args.length ca] 43)).alloc (.cells #[.string ⟨#[]⟩, .string ⟨#[116, 97, 98, 108, 101]⟩, .string ⟨#[102, 111, 114, 98, 105, 100]⟩, .string ⟨#[100, 105, 102, 102]⟩, .string ⟨#[101, 113, 117, 97, 108]⟩, .string ⟨#[114, 105, 115, 105, 110, 103]⟩, .string ⟨#[108, 105, 110, 101, 97, 114]⟩] 9)).heap[w.heap.size + 1]? = some (.cells #[.string ⟨#[]⟩, .string ⟨#[116, 97, 98, 108, 101]⟩, .string ⟨#[102, 111, 114, 98, 105, 100]⟩, .string ⟨#[100, 105, 102, 102]⟩, .string ⟨#[101, 113, 117, 97, 108]⟩, .string ⟨#[114, 105, 115, 105, 110, 103]⟩, .string ⟨#[108, 105, 110, 101, 97, 114]⟩] 9) := by
    have := heap_alloc_new (w.alloc (.cells #[.int .i64 c.kind, .slice As c.scope.length cs, .slice Ar c.rows.length cr, .slice Aa c.args.length ca] 43)) (.cells #[.string ⟨#[]⟩, .string ⟨#[116, 97, 98, 108, 101]⟩, .string ⟨#[102, 111, 114, 98, 105, 100]⟩, .string ⟨#[100, 105, 102, 102]⟩, .string ⟨#[101, 113, 117, 97, 108]⟩, .string ⟨#[114, 105, 115, 105, 110, 103]⟩, .string ⟨#[108, 105, 110, 101, 97, 114]⟩] 9)
    simpa using this
  have hw1 := words_cell hwd c.kind k1 k6
  have HL := Lib.hid hlen
  have HWL := Lib.hid (word_len c.kind k1 k6)
  have HPE : Hid (hardP c = nth [] wordsT c.kind.toNat ++ if c.kind = 6 then linP 0 c.args c.scope ++ ([58, 32] ++ nth [] howsT (nth 0 c.args c.scope.length).toNat) ++ numsP [nth 0 c.args (c.scope.length + 1)] else numsP c.scope ++ if 2 < c.kind then [] else [58] ++ rowsP 0 c.rows) := Lib.hid rfl
  have HFS := Lib.hid fs
  have HFA := Lib.hid fa
  have HFR := Lib.hid fr
  have HZ1 : Hid (((w.alloc (.cells #[.int .i64 c.kind, .slice As c.scope.length cs, .slice Ar c.rows.length cr, .slice Aa c.args.length ca] 43)).alloc (.cells #[.string ⟨#[]⟩, .string ⟨#[116, 97, 98, 108, 101]⟩, .string ⟨#[102, 111, 114, 98, 105, 100]⟩, .string ⟨#[100, 105, 102, 102]⟩, .string ⟨#[101, 113, 117, 97, 108]⟩, .string ⟨#[114, 105, 115, 105, 110, 103]⟩, .string ⟨#[108, 105, 110, 101, 97, 114]⟩] 9)).heap.size = w.heap.size + 1 + 1) := Lib.hid (by simp)
  have x0 : ((w.alloc (.cells #[.int .i64 c.kind, .slice As c.scope.length cs, .slice Ar c.rows.length cr, .slice Aa c.args.length ca] 43)).alloc (.cells #[.string ⟨#[]⟩, .string ⟨#[116, 97, 98, 108, 101]⟩, .string ⟨#[102, 111, 114, 98, 105, 100]⟩, .string ⟨#[100, 105, 102, 102]⟩, .string ⟨#[101, 113, 117, 97, 108]⟩, .string ⟨#[114, 105, 115, 105, 110, 103]⟩, .string ⟨#[108, 105, 110, 101, 97, 114]⟩] 9)).cell? ⟨w.heap.size, 0, none⟩ = some (.int .i64 c.kind) := cell_at hc rfl
  have x1 : ((w.alloc (.cells #[.int .i64 c.kind, .slice As c.scope.length cs, .slice Ar c.rows.length cr, .slice Aa c.args.length ca] 43)).alloc (.cells #[.string ⟨#[]⟩, .string ⟨#[116, 97, 98, 108, 101]⟩, .string ⟨#[102, 111, 114, 98, 105, 100]⟩, .string ⟨#[100, 105, 102, 102]⟩, .string ⟨#[101, 113, 117, 97, 108]⟩, .string ⟨#[114, 105, 115, 105, 110, 103]⟩, .string ⟨#[108, 105, 110, 101, 97, 114]⟩] 9)).cell? ⟨w.heap.size, 1, none⟩ = some (.slice As c.scope.length cs) := cell_at hc rfl
  have x2 : ((w.alloc (.cells #[.int .i64 c.kind, .slice As c.scope.length cs, .slice Ar c.rows.length cr, .slice Aa c.args.length ca] 43)).alloc (.cells #[.string ⟨#[]⟩, .string ⟨#[116, 97, 98, 108, 101]⟩, .string ⟨#[102, 111, 114, 98, 105, 100]⟩, .string ⟨#[100, 105, 102, 102]⟩, .string ⟨#[101, 113, 117, 97, 108]⟩, .string ⟨#[114, 105, 115, 105, 110, 103]⟩, .string ⟨#[108, 105, 110, 101, 97, 114]⟩] 9)).cell? ⟨w.heap.size, 2, none⟩ = some (.slice Ar c.rows.length cr) := cell_at hc rfl
  have x3 : ((w.alloc (.cells #[.int .i64 c.kind, .slice As c.scope.length cs, .slice Ar c.rows.length cr, .slice Aa c.args.length ca] 43)).alloc (.cells #[.string ⟨#[]⟩, .string ⟨#[116, 97, 98, 108, 101]⟩, .string ⟨#[102, 111, 114, 98, 105, 100]⟩, .string ⟨#[100, 105, 102, 102]⟩, .string ⟨#[101, 113, 117, 97, 108]⟩, .string ⟨#[114, 105, 115, 105, 110, 103]⟩, .string ⟨#[108, 105, 110, 101, 97, 114]⟩] 9)).cell? ⟨w.heap.size, 3, none⟩ = some (.slice Aa c.args.length ca) := cell_at hc rfl
  have k7 : c.kind < 7 := by omega
  have k0 : 0 ≤ c.kind := by omega
  clear hAs hAr hAa hb0 hwd hlen fs fa fr hc k1 k6 f6
  go_enter Tryz.func41, Tryz.ntmps41
  go_upto_region 2 with fail
  obtain ⟨W1, hW1⟩ : ∃ W1, W1 = (w.alloc (.cells #[.int .i64 c.kind, .slice As c.scope.length cs, .slice Ar c.rows.length cr, .slice Aa c.args.length ca] 43)).alloc (.cells #[.string ⟨#[]⟩, .string ⟨#[116, 97, 98, 108, 101]⟩, .string ⟨#[102, 111, 114, 98, 105, 100]⟩, .string ⟨#[100, 105, 102, 102]⟩, .string ⟨#[101, 113, 117, 97, 108]⟩, .string ⟨#[114, 105, 115, 105, 110, 103]⟩, .string ⟨#[108, 105, 110, 101, 97, 114]⟩] 9) := ⟨_, rfl⟩
  rw [← hW1]
  simp only [← hW1] at HB HS HR HA hw1 HZ1 x0 x1 x2 x3
  clear hW1
  have hq := HQ6.out
  rw [hq] at x0 hw1 ⊢
  change W1.cell? ⟨w.heap.size + 1, 6, none⟩ = some (.string ⟨(nth [] wordsT 6).toArray⟩) at hw1
  have HPL : Hid (hardP c = nth [] wordsT 6 ++ (linP 0 c.args c.scope ++ ([58, 32] ++ nth [] howsT (nth 0 c.args c.scope.length).toNat) ++ numsP [nth 0 c.args (c.scope.length + 1)])) := Lib.hid (by rw [HPE.out, if_pos hq, hq]; rfl)
  obtain ⟨hla, hh0, hh2⟩ := HF6.out
  have hl : (nth [] wordsT 6).length + (linP 0 c.args c.scope).length + 2 + (nth [] howsT (nth 0 c.args c.scope.length).toNat).length + (numsP [nth 0 c.args (c.scope.length + 1)]).length ≤ 140737488355328 := by
    have := HL.out
    rw [HPL.out] at this
    simp only [List.length_append, List.length_cons, List.length_nil] at this; omega
  have HLL := Lib.hid hl
  have HLA := Lib.hid hla
  clear hq k7 k0 HPE HWL HR x2 hla hl HQ6 HF6 HL
  generalize nth [] wordsT 6 = wd at *
  go_wp2_with fail
  go_loopg [4, 6] c.scope.length (fun g s i wr => LinsRel c W1 wd g s i wr)
  case atStart => exact ⟨0, _, rfl, Nat.zero_le _, rfl, Lib.hid (by simp [linP]), Lib.hid (Below.refl _ _), rfl⟩
  case round =>
    obtain ⟨k, sb, rfl, hk, rfl, hs, HB1, hg⟩ := hrel
    have HG := Lib.hid hg
    have y1 := cell_kept HB1.out x1
    have y3 := cell_kept HB1.out x3
    clear hg x0 x1 x3 hw1
    have hll := HLL.out
    have hla := HLA.out
    by_cases hlt : k < c.scope.length
    · obtain ⟨b1, o1, rfl, g1⟩ := HS.out.elems.num hlt
      obtain ⟨b3, o3, rfl, g3⟩ := HA.out.elems.num (j := k) (by omega)
      have yv := cell_kept HB1.out g1
      have ya := cell_kept HB1.out g3
      have hst := linP_step c.args c.scope k hlt (by omega)
      have hle := linP_take_le c.args c.scope (k + 1) (by omega) (by omega)
      rw [hst] at hle
      simp only [List.length_append] at hle
      have hft := Lib.hid (fits_two (HFA.out k (by omega)) (HFS.out k hlt))
      have hlk : k < c.args.length := by omega
      have hsz : sb.size = wd.length + (linP 0 (c.args.take k) (c.scope.take k)).length := by rw [hs.out, size_mk, List.length_append]
      have hnz : (⟨(numsP [nth 0 c.args k, nth 0 c.scope k]).toArray⟩ : ByteArray).size = (numsP [nth 0 c.args k, nth 0 c.scope k]).length := size_mk _
      have hs1 : sb.size + 1 ≤ 9223372036854775807 := by omega
      have hs2 : sb.size + (⟨(numsP [nth 0 c.args k, nth 0 c.scope k]).toArray⟩ : ByteArray).size ≤ 9223372036854775807 := by omega
      have hs3 : sb.size ≤ 140737488355328 := by omega
      have hs4 : (⟨(numsP [nth 0 c.args k, nth 0 c.scope k]).toArray⟩ : ByteArray).size ≤ 140737488355328 := by omega
      clear hsz hnz hle hla hll g1 g3
      rcases Nat.eq_zero_or_pos k with h0 | h0
      · have HQ : Hid (sb ++ ⟨(numsP [nth 0 c.args k, nth 0 c.scope k]).toArray⟩ = ⟨(wd ++ linP 0 (c.args.take (k + 1)) (c.scope.take (k + 1))).toArray⟩) := Lib.hid (by
          rw [hst, hs.out, ba_app, List.append_assoc, h0]; rfl)
        clear hst hs hs1 hs3 hs4
        have h0' : ¬ (0 : Int) < k := by omega
        clear h0
        go_upto_region 10 with fail
        refine wp_region_lexO (fun w' => w'.cell? ⟨w.heap.size, 1, none⟩ = some (.slice (some ⟨b1, o1, none⟩) c.scope.length cs) ∧ w'.cell? ⟨w.heap.size, 3, none⟩ = some (.slice (some ⟨b3, o3, none⟩) c.args.length ca) ∧ w'.cell? ⟨b1, o1 + k, none⟩ = some (.int .i64 (nth 0 c.scope k)) ∧ w'.cell? ⟨b3, o3 + k, none⟩ = some (.int .i64 (nth 0 c.args k))) [(0, true), (1, true), (2, true), (3, true), (4, true), (5, true), (6, true), (7, true), (8, true), (9, true), (10, true), (11, false), (12, false), (13, false), (14, false)] (by kernel_rfl) (by kernel_rfl) (fun c a d v w h => by cases d <;> exact h) ?_
        change wpLexO _ _ _ _ _ _ _ (World.drew wr)
        have HB2 := Lib.hid (Below.drew HB1.out)
        have y1 := cell_kept (Below.drew (Below.refl wr.heap.size wr)) y1
        have y3 := cell_kept (Below.drew (Below.refl wr.heap.size wr)) y3
        have ya := cell_kept (Below.drew (Below.refl wr.heap.size wr)) ya
        have yv := cell_kept (Below.drew (Below.refl wr.heap.size wr)) yv
        clear HB1
        generalize World.drew wr = W2 at *
        repeat (first | (refine lexO_take ⟨y1, y3, yv, ya⟩ rfl (fun w' hw' => by (obtain ⟨u0, u1, u2, u3⟩ := hw'; (try go_simp); try rfl)) (fun K hK => ?_); go_simp; refine hK _ _ ?_; clear hK K))
        refine lexO_step rfl (fun K hK => ?_)
        go_wp2_with fail
        have hal := below_alloc1 W2 (.cells #[.int .i64 (nth 0 c.args k), .int .i64 (nth 0 c.scope k)] 3)
        have HB3 := Lib.hid (below_next HB2.out hal)
        have z1 := cell_kept hal y1
        have z3 := cell_kept hal y3
        have za := cell_kept hal ya
        have zv := cell_kept hal yv
        clear y1 y3 ya yv
        refine hK _ _ ⟨z1, z3, zv, za⟩ ?_
        clear hK K hal
        refine lexO_step rfl (fun K hK => ?_)
        go_wp2_with (go_at_call 40; refine (refnums_any _ [nth 0 c.args k, nth 0 c.scope k] (· = W2.heap.size) _ (lit_two W2 _ _) hft.out).mono ?_; rintro e w4 ⟨rfl, hb4⟩)
        have HB4 := Lib.hid (below_next HB3.out hb4)
        have y1 := cell_kept hb4 z1
        have y3 := cell_kept hb4 z3
        have ya := cell_kept hb4 za
        have yv := cell_kept hb4 zv
        clear z1 z3 za zv HB3 HB2 hb4
        refine hK _ _ ⟨y1, y3, yv, ya⟩ ?_
        clear hK K
        generalize (⟨(numsP [nth 0 c.args k, nth 0 c.scope k]).toArray⟩ : ByteArray) = nb at *
        refine lexO_step rfl (fun K hK => ?_)
        go_wp2_with fail
        refine hK _ _ ⟨y1, y3, yv, ya⟩ ?_
        clear hK K
        refine lexO_step rfl (fun K hK => ?_)
        go_wp2_with fail
        refine hK _ _ ⟨y1, y3, yv, ya⟩ ?_
        clear hK K
        refine lexO_nil ?_
        go_wp2_with fail
        go_roundg (c.scope.length - (k + 1))
        case rel => exact ⟨k + 1, _, by go_num, by omega, rfl, HQ, HB4, rfl⟩
        case measure => have := HG.out; omega
      · have HQ : Hid (sb ++ ⟨#[44]⟩ ++ ⟨(numsP [nth 0 c.args k, nth 0 c.scope k]).toArray⟩ = ⟨(wd ++ linP 0 (c.args.take (k + 1)) (c.scope.take (k + 1))).toArray⟩) := Lib.hid (by
          rw [hst, hs.out, show (⟨#[44]⟩ : ByteArray) = ⟨[44].toArray⟩ from rfl, ba_app, ba_app, commaP, if_pos h0]; simp only [List.append_assoc])
        clear hst hs hs2
        have h0' : (0 : Int) < k := by omega
        clear h0
        go_upto_region 10 with fail
        refine wp_region_lexO (fun w' => w'.cell? ⟨w.heap.size, 1, none⟩ = some (.slice (some ⟨b1, o1, none⟩) c.scope.length cs) ∧ w'.cell? ⟨w.heap.size, 3, none⟩ = some (.slice (some ⟨b3, o3, none⟩) c.args.length ca) ∧ w'.cell? ⟨b1, o1 + k, none⟩ = some (.int .i64 (nth 0 c.scope k)) ∧ w'.cell? ⟨b3, o3 + k, none⟩ = some (.int .i64 (nth 0 c.args k))) [(0, true), (1, true), (2, true), (3, true), (4, true), (5, true), (6, true), (7, true), (8, true), (9, true), (10, true), (11, false), (12, false), (13, false), (14, false)] (by kernel_rfl) (by kernel_rfl) (fun c a d v w h => by cases d <;> exact h) ?_
        change wpLexO _ _ _ _ _ _ _ (World.drew wr)
        have HB2 := Lib.hid (Below.drew HB1.out)
        have y1 := cell_kept (Below.drew (Below.refl wr.heap.size wr)) y1
        have y3 := cell_kept (Below.drew (Below.refl wr.heap.size wr)) y3
        have ya := cell_kept (Below.drew (Below.refl wr.heap.size wr)) ya
        have yv := cell_kept (Below.drew (Below.refl wr.heap.size wr)) yv
        clear HB1
        generalize World.drew wr = W2 at *
        repeat (first | (refine lexO_take ⟨y1, y3, yv, ya⟩ rfl (fun w' hw' => by (obtain ⟨u0, u1, u2, u3⟩ := hw'; (try go_simp); try rfl)) (fun K hK => ?_); go_simp; refine hK _ _ ?_; clear hK K))
        refine lexO_step rfl (fun K hK => ?_)
        go_wp2_with fail
        have hal := below_alloc1 W2 (.cells #[.int .i64 (nth 0 c.args k), .int .i64 (nth 0 c.scope k)] 3)
        have HB3 := Lib.hid (below_next HB2.out hal)
        have z1 := cell_kept hal y1
        have z3 := cell_kept hal y3
        have za := cell_kept hal ya
        have zv := cell_kept hal yv
        clear y1 y3 ya yv
        refine hK _ _ ⟨z1, z3, zv, za⟩ ?_
        clear hK K hal
        refine lexO_step rfl (fun K hK => ?_)
        go_wp2_with (go_at_call 40; refine (refnums_any _ [nth 0 c.args k, nth 0 c.scope k] (· = W2.heap.size) _ (lit_two W2 _ _) hft.out).mono ?_; rintro e w4 ⟨rfl, hb4⟩)
        have HB4 := Lib.hid (below_next HB3.out hb4)
        have y1 := cell_kept hb4 z1
        have y3 := cell_kept hb4 z3
        have ya := cell_kept hb4 za
        have yv := cell_kept hb4 zv
        clear z1 z3 za zv HB3 HB2 hb4
        refine hK _ _ ⟨y1, y3, yv, ya⟩ ?_
        clear hK K
        generalize (⟨(numsP [nth 0 c.args k, nth 0 c.scope k]).toArray⟩ : ByteArray) = nb at *
        refine lexO_step rfl (fun K hK => ?_)
        go_wp2_with fail
        refine hK _ _ ⟨y1, y3, yv, ya⟩ ?_
        clear hK K
        refine lexO_step rfl (fun K hK => ?_)
        go_wp2_with fail
        refine hK _ _ ⟨y1, y3, yv, ya⟩ ?_
        clear hK K
        refine lexO_nil ?_
        go_wp2_with fail
        go_roundg (c.scope.length - (k + 1))
        case rel => exact ⟨k + 1, _, by go_num, by omega, rfl, HQ, HB4, rfl⟩
        case measure => have := HG.out; omega
    · obtain rfl : k = c.scope.length := by omega
      clear hlt hk HG
      obtain ⟨b3, o3, rfl, g3⟩ := HA.out.elems.num (j := c.scope.length) (by omega)
      have ya := cell_kept HB1.out g3
      have e' : linP 0 (c.args.take c.scope.length) (c.scope.take c.scope.length) = linP 0 c.args c.scope := by rw [List.take_length, linP_all]
      rw [e'] at hs
      have hsz : sb.size = wd.length + (linP 0 c.args c.scope).length := by rw [hs.out, size_mk, List.length_append]
      have HHW := Lib.hid fun (W : World) (h : W.heap[wr.heap.size]? = some ((.cells #[.string ⟨#[32, 101, 113]⟩, .string ⟨#[32, 108, 101]⟩, .string ⟨#[32, 110, 101]⟩] 9) : Obj)) => hows_cell h _ hh0 hh2
      have hh3 : nth 0 c.args c.scope.length < 3 := by omega
      have hlc : c.scope.length < c.args.length := by omega
      have hlc1 : (c.scope.length : Int) + 1 ≤ c.args.length := by omega
      have hs0 : IntKind.i64.wrap ((c.scope.length:Int) + 1) = (c.scope.length:Int) + 1 := IntWalk.i64_in _ (by omega)
      have hs1 : ((c.scope.length:Int) + 1).toNat = c.scope.length + 1 := by omega
      clear hla hh2 g3
      have hhl : (32 :: nth [] howsT (nth 0 c.args c.scope.length).toNat).length ≤ 1000 := by have := how_len _ hh0 (by omega); simp only [List.length_cons]; omega
      have HHE : Hid ((32 :: nth [] howsT (nth 0 c.args c.scope.length).toNat) = [32] ++ nth [] howsT (nth 0 c.args c.scope.length).toNat) := Lib.hid rfl
      have hyh := HHW.out _ (heap_alloc_new wr (.cells #[.string ⟨#[32, 101, 113]⟩, .string ⟨#[32, 108, 101]⟩, .string ⟨#[32, 110, 101]⟩] 9))
      have hal := below_alloc1 wr (.cells #[.string ⟨#[32, 101, 113]⟩, .string ⟨#[32, 108, 101]⟩, .string ⟨#[32, 110, 101]⟩] 9)
      have hdr := Below.drew hal
      have y3 := cell_kept hdr y3
      have ya := cell_kept hdr ya
      have yh := cell_kept (Below.drew (Below.refl _ _)) hyh
      have HB2 := Lib.hid (below_next HB1.out hdr)
      have HA2 := Lib.hid (HA.out.below (by decide) (below_next HB1.out hdr))
      generalize (32 :: nth [] howsT (nth 0 c.args c.scope.length).toNat) = ht at *
      have hsh : (⟨ht.toArray⟩ : ByteArray).size ≤ 1000 := by rw [size_mk]; exact hhl
      have hss : sb.size ≤ 140737488355328 := by omega
      have HRES : Hid (sb ++ ⟨#[58]⟩ ++ ⟨ht.toArray⟩ ++ ⟨(numsP [nth 0 c.args (c.scope.length + 1)]).toArray⟩ ++ ⟨#[59, 10]⟩ = ⟨(hardP c ++ endT).toArray⟩) := Lib.hid (by
        rw [hs.out, HPL.out, HHE.out, show (⟨#[58]⟩ : ByteArray) = ⟨[58].toArray⟩ from rfl, show (⟨#[59, 10]⟩ : ByteArray) = ⟨[59, 10].toArray⟩ from rfl, ba_app, ba_app, ba_app, ba_app, endT]
        simp only [List.append_assoc, List.cons_append, List.nil_append])
      generalize hhwe : (⟨ht.toArray⟩ : ByteArray) = hw at *
      clear hal hdr hyh hs HHW HHE hhwe HPL hsz e' hhl
      go_upto_region 12 with fail
      refine wp_region_lexO (fun w' => w'.cell? ⟨w.heap.size, 3, none⟩ = some (.slice (some ⟨b3, o3, none⟩) c.args.length ca) ∧ w'.cell? ⟨b3, o3 + c.scope.length, none⟩ = some (.int .i64 (nth 0 c.args c.scope.length)) ∧ w'.cell? ⟨wr.heap.size, (nth 0 c.args c.scope.length).toNat, none⟩ = some (.string hw)) [(0, true), (1, true), (2, true), (3, true), (4, true), (5, true), (6, true), (7, true), (8, true), (9, true), (10, true), (11, true), (12, true), (13, true), (14, true), (15, true), (16, false), (17, false), (18, false), (19, false)] (by kernel_rfl) (by kernel_rfl) (fun c a d v w h => by cases d <;> exact h) ?_
      change wpLexO _ _ _ _ _ _ _ (World.drew (wr.alloc (.cells #[.string ⟨#[32, 101, 113]⟩, .string ⟨#[32, 108, 101]⟩, .string ⟨#[32, 110, 101]⟩] 9)))
      generalize World.drew (wr.alloc (.cells #[.string ⟨#[32, 101, 113]⟩, .string ⟨#[32, 108, 101]⟩, .string ⟨#[32, 110, 101]⟩] 9)) = W2 at *
      clear HB1 y1
      repeat (first | (refine lexO_take ⟨y3, ya, yh⟩ rfl (fun w' hw' => by (obtain ⟨u3, ua, uh⟩ := hw'; (try go_simp); try rfl)) (fun K hK => ?_); go_simp; refine hK _ _ ?_; clear hK K))
      have hp1 : sb.size + 1 ≤ 9223372036854775807 := by omega
      refine lexO_take (v := .string (sb ++ ⟨#[58]⟩)) ⟨y3, ya, yh⟩ rfl (fun w' _ => by (go_simp; try omega)) (fun K hK => ?_)
      go_simp; refine hK _ _ ?_; clear hK K
      repeat (first | (refine lexO_take ⟨y3, ya, yh⟩ rfl (fun w' hw' => by (obtain ⟨u3, ua, uh⟩ := hw'; (try go_simp); try rfl)) (fun K hK => ?_); go_simp; refine hK _ _ ?_; clear hK K))
      have hp2 : (sb ++ ⟨#[58]⟩).size + hw.size ≤ 9223372036854775807 := by rw [ByteArray.size_append, show (ByteArray.mk #[58]).size = 1 from rfl]; omega
      refine lexO_take (v := .string (sb ++ ⟨#[58]⟩ ++ hw)) ⟨y3, ya, yh⟩ rfl (fun w' _ => by (go_simp; try omega)) (fun K hK => ?_)
      go_simp; refine hK _ _ ?_; clear hK K
      repeat (first | (refine lexO_take ⟨y3, ya, yh⟩ rfl (fun w' hw' => by (obtain ⟨u3, ua, uh⟩ := hw'; (try go_simp); try rfl)) (fun K hK => ?_); go_simp; refine hK _ _ ?_; clear hK K))
      have hca2 : ¬ ca = c.scope.length + 1 := by have := HLA.out; omega
      simp only [if_neg hca2]
      have hp3 : (sb ++ ⟨#[58]⟩ ++ hw).size ≤ 140737488455328 := by rw [ByteArray.size_append, ByteArray.size_append, show (ByteArray.mk #[58]).size = 1 from rfl]; omega
      generalize sb ++ ⟨#[58]⟩ ++ hw = sc at *
      refine lexO_step rfl (fun K hK => ?_)
      go_wp2_with (go_at_call 40; refine (refnums_any _ [nth 0 c.args (c.scope.length + 1)] ok _ (sl_last HA2.out HLA.out) (fits_one (HFA.out _ (by have := HLA.out; omega)))).mono ?_; rintro e w4 ⟨rfl, hb4⟩)
      have HB4 := Lib.hid (below_next HB2.out hb4)
      have z3 := cell_kept hb4 y3
      have za := cell_kept hb4 ya
      have zh := cell_kept hb4 yh
      have hnz : (⟨(numsP [nth 0 c.args (c.scope.length + 1)]).toArray⟩ : ByteArray).size ≤ 140737488355328 := by rw [size_mk]; omega
      clear y3 ya yh HB2 hb4
      refine hK _ _ ⟨z3, za, zh⟩ ?_
      clear hK K
      generalize (⟨(numsP [nth 0 c.args (c.scope.length + 1)]).toArray⟩ : ByteArray) = nb at *
      refine lexO_step rfl (fun K hK => ?_)
      go_wp2_with fail
      refine hK _ _ ⟨z3, za, zh⟩ ?_
      clear hK K
      have hp4 : (sc ++ nb).size ≤ 381474976810656 := by rw [ByteArray.size_append]; omega
      generalize hsd : sc ++ nb = sd at *
      refine lexO_step rfl (fun K hK => ?_)
      go_wp2_with fail
      refine hK _ _ ⟨z3, za, zh⟩ ?_
      clear hK K
      refine lexO_step rfl (fun K hK => ?_)
      go_wp2_with fail
      refine hK _ _ ⟨z3, za, zh⟩ ?_
      clear hK K
      refine lexO_nil ?_
      go_wp2_with fail
      go_ret
      exact ⟨ret_str HRES.out, below_next HB.out HB4.out⟩
end Go.Proofs.YtoahaigfjfeopaaGreatDoor

/- arboristref06.line of all others; of any. -/
namespace Go.Proofs.YtoahaigfjfeopaaGreatDoor
open Go.RowKit
attribute [local irreducible] wpStill wpLex wpLexO wpPlan Calls

set_option maxRecDepth 100000 in
set_option maxHeartbeats 8000000 in
theorem refline_tab (vs vr va : Value) (c : Con) (ok : Nat → Prop) (w : World) (h1 : Sl (Kd.int .i64) w ok vs c.scope) (h2 : Sl kRow w ok vr c.rows) (h3 : Sl (Kd.int .i64) w ok va c.args) (hf : fitSt (.hard c)) (hlen : (hardP c).length ≤ 140737488355328) (hq : ¬ c.kind = 6) :
    Calls Tryz.prog 41 #[.agg #[.int .i64 c.kind, vs, vr, va]] w fun e w' => e = .returned (.string ⟨(hardP c ++ endT).toArray⟩) ∧ Below w.heap.size w w' := by
  obtain ⟨k1, k6, fs, fa, fr, f6⟩ := hf
  obtain ⟨As, cs, rfl, hcs, hms, hAs⟩ := h1
  obtain ⟨Ar, cr, rfl, hcr, hmr, hAr⟩ := h2
  obtain ⟨Aa, ca, rfl, hca, hma, hAa⟩ := h3
  have hb0 := below_next (below_alloc1 w (.cells #[.int .i64 c.kind, .slice As c.scope.length cs, .slice Ar c.rows.length cr, .slice Aa c.args.length ca] 43)) (below_alloc1 _ (.cells #[.string ⟨#[]⟩, .string ⟨#[116, 97, 98, 108, 101]⟩, .string ⟨#[102, 111, 114, 98, 105, 100]⟩, .string ⟨#[100, 105, 102, 102]⟩, .string ⟨#[101, 113, 117, 97, 108]⟩, .string ⟨#[114, 105, 115, 105, 110, 103]⟩, .string ⟨#[108, 105, 110, 101, 97, 114]⟩] 9))
  have HB := Lib.hid hb0
  have HS := Lib.hid (Sl.below (v := .slice As c.scope.length cs) (xs := c.scope) (by decide) ⟨As, cs, rfl, hcs, hms, hAs⟩ hb0)
  have HR := Lib.hid (Sl.below (v := .slice Ar c.rows.length cr) (xs := c.rows) (by decide) ⟨Ar, cr, rfl, hcr, hmr, hAr⟩ hb0)
  have HA := Lib.hid (Sl.below (v := .slice Aa c.args.length ca) (xs := c.args) (by decide) ⟨Aa, ca, rfl, hca, hma, hAa⟩ hb0)
  have hc := block_kept (below_alloc1 _ (.cells #[.string ⟨#[]⟩, .string ⟨#[116, 97, 98, 108, 101]⟩, .string ⟨#[102, 111, 114, 98, 105, 100]⟩, .string ⟨#[100, 105, 102, 102]⟩, .string ⟨#[101, 113, 117, 97, 108]⟩, .string ⟨#[114, 105, 115, 105, 110, 103]⟩, .string ⟨#[108, 105, 110, 101, 97, 114]⟩] 9)) (heap_alloc_new w (.cells #[.int .i64 c.kind, .slice As c.scope.length cs, .slice Ar c.rows.length cr, .slice Aa c.args.length ca] 43))
  have hwd : ((w.alloc (.cells #[.int .i64 c.kind, .slice As c.scope.length cs, .slice Ar c.rows.length cr, .slice Aa c.args.length ca] 43)).alloc (.cells #[.string ⟨#[]⟩, .string ⟨#[116, 97, 98, 108, 101]⟩, .string ⟨#[102, 111, 114, 98, 105, 100]⟩, .string ⟨#[100, 105, 102, 102]⟩, .string ⟨#[101, 113, 117, 97, 108]⟩, .string ⟨#[114, 105, 115, 105, 110, 103]⟩, .string ⟨#[108, 105, 110, 101, 97, 114]⟩] 9)).heap[w.heap.size + 1]? = some (.cells #[.string ⟨#[]⟩, .string ⟨#[116, 97, 98, 108, 101]⟩, .string ⟨#[102, 111, 114, 98, 105, 100]⟩, .string ⟨#[100, 105, 102, 102]⟩, .string ⟨#[101, 113, 117, 97, 108]⟩, .string ⟨#[114, 105, 115, 105, 110, 103]⟩, .string ⟨#[108, 105, 110, 101, 97, 114]⟩] 9) := by
    have := heap_alloc_new (w.alloc (.cells #[.int .i64 c.kind, .slice As c.scope.length cs, .slice Ar c.rows.length cr, .slice Aa c.args.length ca] 43)) (.cells #[.string ⟨#[]⟩, .string ⟨#[116, 97, 98, 108, 101]⟩, .string ⟨#[102, 111, 114, 98, 105, 100]⟩, .string ⟨#[100, 105, 102, 102]⟩, .string ⟨#[101, 113, 117, 97, 108]⟩, .string ⟨#[114, 105, 115, 105, 110, 103]⟩, .string ⟨#[108, 105, 110, 101, 97, 114]⟩] 9)
    simpa using this
  have hw1 := words_cell hwd c.kind k1 k6
  have HL := Lib.hid hlen
  have HWL := Lib.hid (word_len c.kind k1 k6)
  have HPE : Hid (hardP c = nth [] wordsT c.kind.toNat ++ if c.kind = 6 then linP 0 c.args c.scope ++ ([58, 32] ++ nth [] howsT (nth 0 c.args c.scope.length).toNat) ++ numsP [nth 0 c.args (c.scope.length + 1)] else numsP c.scope ++ if 2 < c.kind then [] else [58] ++ rowsP 0 c.rows) := Lib.hid rfl
  have HFS := Lib.hid fs
  have HFA := Lib.hid fa
  have HFR := Lib.hid fr
  have HZ1 : Hid (((w.alloc (.cells #[.int .i64 c.kind, .slice As c.scope.length cs, .slice Ar c.rows.length cr, .slice Aa c.args.length ca] 43)).alloc (.cells #[.string ⟨#[]⟩, .string ⟨#[116, 97, 98, 108, 101]⟩, .string ⟨#[102, 111, 114, 98, 105, 100]⟩, .string ⟨#[100, 105, 102, 102]⟩, .string ⟨#[101, 113, 117, 97, 108]⟩, .string ⟨#[114, 105, 115, 105, 110, 103]⟩, .string ⟨#[108, 105, 110, 101, 97, 114]⟩] 9)).heap.size = w.heap.size + 1 + 1) := Lib.hid (by simp)
  have x0 : ((w.alloc (.cells #[.int .i64 c.kind, .slice As c.scope.length cs, .slice Ar c.rows.length cr, .slice Aa c.args.length ca] 43)).alloc (.cells #[.string ⟨#[]⟩, .string ⟨#[116, 97, 98, 108, 101]⟩, .string ⟨#[102, 111, 114, 98, 105, 100]⟩, .string ⟨#[100, 105, 102, 102]⟩, .string ⟨#[101, 113, 117, 97, 108]⟩, .string ⟨#[114, 105, 115, 105, 110, 103]⟩, .string ⟨#[108, 105, 110, 101, 97, 114]⟩] 9)).cell? ⟨w.heap.size, 0, none⟩ = some (.int .i64 c.kind) := cell_at hc rfl
  have x1 : ((w.alloc (.cells #[.int .i64 c.kind, .slice As c.scope.length cs, .slice Ar c.rows.length cr, .slice Aa c.args.length ca] 43)).alloc (.cells #[.string ⟨#[]⟩, .string ⟨#[116, 97, 98, 108, 101]⟩, .string ⟨#[102, 111, 114, 98, 105, 100]⟩, .string ⟨#[100, 105, 102, 102]⟩, .string ⟨#[101, 113, 117, 97, 108]⟩, .string ⟨#[114, 105, 115, 105, 110, 103]⟩, .string ⟨#[108, 105, 110, 101, 97, 114]⟩] 9)).cell? ⟨w.heap.size, 1, none⟩ = some (.slice As c.scope.length cs) := cell_at hc rfl
  have x2 : ((w.alloc (.cells #[.int .i64 c.kind, .slice As c.scope.length cs, .slice Ar c.rows.length cr, .slice Aa c.args.length ca] 43)).alloc (.cells #[.string ⟨#[]⟩, .string ⟨#[116, 97, 98, 108, 101]⟩, .string ⟨#[102, 111, 114, 98, 105, 100]⟩, .string ⟨#[100, 105, 102, 102]⟩, .string ⟨#[101, 113, 117, 97, 108]⟩, .string ⟨#[114, 105, 115, 105, 110, 103]⟩, .string ⟨#[108, 105, 110, 101, 97, 114]⟩] 9)).cell? ⟨w.heap.size, 2, none⟩ = some (.slice Ar c.rows.length cr) := cell_at hc rfl
  have x3 : ((w.alloc (.cells #[.int .i64 c.kind, .slice As c.scope.length cs, .slice Ar c.rows.length cr, .slice Aa c.args.length ca] 43)).alloc (.cells #[.string ⟨#[]⟩, .string ⟨#[116, 97, 98, 108, 101]⟩, .string ⟨#[102, 111, 114, 98, 105, 100]⟩, .string ⟨#[100, 105, 102, 102]⟩, .string ⟨#[101, 113, 117, 97, 108]⟩, .string ⟨#[114, 105, 115, 105, 110, 103]⟩, .string ⟨#[108, 105, 110, 101, 97, 114]⟩] 9)).cell? ⟨w.heap.size, 3, none⟩ = some (.slice Aa c.args.length ca) := cell_at hc rfl
  have k7 : c.kind < 7 := by omega
  have k0 : 0 ≤ c.kind := by omega
  clear hAs hAr hAa hb0 hwd hlen fs fa fr hc k1 k6 f6
  go_enter Tryz.func41, Tryz.ntmps41
  go_upto_region 2 with fail
  obtain ⟨W1, hW1⟩ : ∃ W1, W1 = (w.alloc (.cells #[.int .i64 c.kind, .slice As c.scope.length cs, .slice Ar c.rows.length cr, .slice Aa c.args.length ca] 43)).alloc (.cells #[.string ⟨#[]⟩, .string ⟨#[116, 97, 98, 108, 101]⟩, .string ⟨#[102, 111, 114, 98, 105, 100]⟩, .string ⟨#[100, 105, 102, 102]⟩, .string ⟨#[101, 113, 117, 97, 108]⟩, .string ⟨#[114, 105, 115, 105, 110, 103]⟩, .string ⟨#[108, 105, 110, 101, 97, 114]⟩] 9) := ⟨_, rfl⟩
  rw [← hW1]
  simp only [← hW1] at HB HS HR HA hw1 HZ1 x0 x1 x2 x3
  clear hW1
  have HPL : Hid (hardP c = nth [] wordsT c.kind.toNat ++ (numsP c.scope ++ if 2 < c.kind then [] else [58] ++ rowsP 0 c.rows)) := Lib.hid (by rw [HPE.out, if_neg hq])
  have hl : (nth [] wordsT c.kind.toNat).length + (numsP c.scope).length + (if 2 < c.kind then [] else [58] ++ rowsP 0 c.rows).length ≤ 140737488355328 := by
    have := HL.out
    rw [HPL.out] at this
    simp only [List.length_append] at this
    omega
  have HLL := Lib.hid hl
  have hwl : (⟨(nth [] wordsT c.kind.toNat).toArray⟩ : ByteArray).size ≤ 7 := by rw [size_mk]; exact HWL.out
  have hns : (⟨(numsP c.scope).toArray⟩ : ByteArray).size ≤ 140737488355328 := by rw [size_mk]; omega
  have HSW : Hid ((⟨(nth [] wordsT c.kind.toNat).toArray⟩ : ByteArray) ++ ⟨(numsP c.scope).toArray⟩ = ⟨(nth [] wordsT c.kind.toNat ++ numsP c.scope).toArray⟩) := Lib.hid (ba_app _ _)
  clear HPE HWL HL hl
  generalize (⟨(nth [] wordsT c.kind.toNat).toArray⟩ : ByteArray) = bw at *
  generalize nth [] wordsT c.kind.toNat = wd at *
  have HNB := Lib.hid (refnums_any (.slice As c.scope.length cs) c.scope ok W1 HS.out HFS.out)
  generalize (⟨(numsP c.scope).toArray⟩ : ByteArray) = bn at *
  have hws : (bw ++ bn).size ≤ 140737488355335 := by rw [ByteArray.size_append]; omega
  by_cases hk2 : 2 < c.kind
  · have HRES : Hid (bw ++ bn ++ ⟨#[59, 10]⟩ = ⟨(hardP c ++ endT).toArray⟩) := Lib.hid (by
      rw [HSW.out, HPL.out, if_pos hk2, show (⟨#[59, 10]⟩ : ByteArray) = ⟨[59, 10].toArray⟩ from rfl, ba_app, endT, List.append_nil])
    clear HPL HLL
    go_wp2_with (go_at_call 40; refine HNB.out.mono ?_; rintro e w2 ⟨rfl, hb⟩; (have HB2 := Lib.hid hb); (have y0 := cell_kept hb x0); clear hb)
    go_ret
    exact ⟨ret_str HRES.out, below_next HB.out HB2.out⟩
  · rw [if_neg hk2] at HPL HLL
    have hll := HLL.out
    simp only [List.length_append, List.length_cons, List.length_nil] at hll
    have HL2 := Lib.hid hll
    clear HLL hll
    go_wp2_with (go_at_call 40; refine HNB.out.mono ?_; rintro e w2 ⟨rfl, hb⟩; (have HB2 := Lib.hid hb); (have y0 := cell_kept hb x0); clear hb)
    clear x0 x1 y0 hw1
    go_loopg [4, 8] c.rows.length (fun g s i wr => RwsRel c W1 (wd ++ numsP c.scope ++ [58]) g s i wr)
    case atStart => exact ⟨0, _, rfl, Nat.zero_le _, rfl, Lib.hid (by rw [HSW.out, show (⟨#[58]⟩ : ByteArray) = ⟨[58].toArray⟩ from rfl, ba_app]; simp [rowsP]), Lib.hid HB2.out, rfl⟩
    case round =>
      obtain ⟨k, sb, rfl, hk, rfl, hs, HB1, hg⟩ := hrel
      have HG := Lib.hid hg
      have y2 := cell_kept HB1.out x2
      clear hg HB2 x2
      have hll := HL2.out
      by_cases hlt : k < c.rows.length
      · obtain ⟨b1, o1, vt, rfl, g1, ht⟩ := HR.out.elems.row hlt
        have HT := Lib.hid (ht.below (by decide) HB1.out)
        obtain ⟨At, ct, rfl, _, _, _⟩ := ht
        have yv := cell_kept HB1.out g1
        have hst := rowsP_step c.rows k hlt
        have hle := rowsP_take_le c.rows (k + 1)
        rw [hst] at hle
        simp only [List.length_append] at hle
        have hft := Lib.hid (HFR.out (nth [] c.rows k) (nth_mem [] hlt))
        have HNB := Lib.hid (refnums_any _ _ ok _ HT.out hft.out)
        have hnz : (⟨(numsP (nth [] c.rows k)).toArray⟩ : ByteArray).size = (numsP (nth [] c.rows k)).length := size_mk _
        have hsz : sb.size = wd.length + (numsP c.scope).length + 1 + (rowsP 0 (c.rows.take k)).length := by rw [hs.out, size_mk]; simp only [List.length_append, List.length_cons, List.length_nil]
        have hs3 : sb.size ≤ 140737488355328 := by omega
        have hs4 : (⟨(numsP (nth [] c.rows k)).toArray⟩ : ByteArray).size ≤ 140737488355328 := by omega
        clear hnz hsz hle hll g1 hft HT
        rcases Nat.eq_zero_or_pos k with h0 | h0
        · have HQ : Hid (sb ++ ⟨(numsP (nth [] c.rows k)).toArray⟩ = ⟨(wd ++ numsP c.scope ++ [58] ++ rowsP 0 (c.rows.take (k + 1))).toArray⟩) := Lib.hid (by
            rw [hst, hs.out, ba_app, List.append_assoc, h0]; rfl)
          generalize (⟨(numsP (nth [] c.rows k)).toArray⟩ : ByteArray) = nb at *
          have h0' : ¬ (0 : Int) < k := by omega
          clear hst hs h0
          go_wp2_with (go_at_call 40; refine HNB.out.mono ?_; rintro e w3 ⟨rfl, hb⟩; (have HB3 := Lib.hid (below_next HB1.out hb)); clear hb HNB)
          go_roundg (c.rows.length - (k + 1))
          case rel => exact ⟨k + 1, _, by go_num, by omega, rfl, HQ, HB3, rfl⟩
          case measure => have := HG.out; omega
        · have HQ : Hid (sb ++ ⟨#[44]⟩ ++ ⟨(numsP (nth [] c.rows k)).toArray⟩ = ⟨(wd ++ numsP c.scope ++ [58] ++ rowsP 0 (c.rows.take (k + 1))).toArray⟩) := Lib.hid (by
            rw [hst, hs.out, show (⟨#[44]⟩ : ByteArray) = ⟨[44].toArray⟩ from rfl, ba_app, ba_app, commaP, if_pos h0]; simp only [List.append_assoc])
          generalize (⟨(numsP (nth [] c.rows k)).toArray⟩ : ByteArray) = nb at *
          have h0' : (0 : Int) < k := by omega
          clear hst hs h0
          go_wp2_with (go_at_call 40; refine HNB.out.mono ?_; rintro e w3 ⟨rfl, hb⟩; (have HB3 := Lib.hid (below_next HB1.out hb)); clear hb HNB)
          go_roundg (c.rows.length - (k + 1))
          case rel => exact ⟨k + 1, _, by go_num, by omega, rfl, HQ, HB3, rfl⟩
          case measure => have := HG.out; omega
      · obtain rfl : k = c.rows.length := by omega
        have hs2 := hs.out
        rw [List.take_of_length_le (Nat.le_refl _)] at hs2
        have HRES : Hid (sb ++ ⟨#[59, 10]⟩ = ⟨(hardP c ++ endT).toArray⟩) := Lib.hid (by
          rw [hs2, HPL.out, show (⟨#[59, 10]⟩ : ByteArray) = ⟨[59, 10].toArray⟩ from rfl, ba_app, endT]; simp only [List.append_assoc])
        have hsz : sb.size ≤ 140737488355328 := by rw [hs2, size_mk]; simp only [List.length_append, List.length_cons, List.length_nil]; omega
        clear hs hs2 hlt hk HG hll
        go_wp2_with fail
        go_ret
        exact ⟨ret_str HRES.out, below_next HB.out HB1.out⟩
theorem refline_any (vs vr va : Value) (c : Con) (ok : Nat → Prop) (w : World) (h1 : Sl (Kd.int .i64) w ok vs c.scope) (h2 : Sl kRow w ok vr c.rows) (h3 : Sl (Kd.int .i64) w ok va c.args) (hf : fitSt (.hard c)) (hlen : (hardP c).length ≤ 140737488355328) :
    Calls Tryz.prog 41 #[.agg #[.int .i64 c.kind, vs, vr, va]] w fun e w' => e = .returned (.string ⟨(hardP c ++ endT).toArray⟩) ∧ Below w.heap.size w w' := by
  by_cases hq : c.kind = 6
  · exact refline_lin vs vr va c ok w h1 h2 h3 hf hlen hq
  · exact refline_tab vs vr va c ok w h1 h2 h3 hf hlen hq
end Go.Proofs.YtoahaigfjfeopaaGreatDoor

/- arboristref06.Print. -/
namespace Go.Proofs.YtoahaigfjfeopaaGreatDoor
open Go.RowKit
attribute [local irreducible] wpStill wpLex wpLexO wpPlan Calls

theorem fits_right {x : Ins} (h : rightB x = true) : ∀ st ∈ stsOf x, fitSt st := fit_all _ ⟨[], [], []⟩ ⟨Nat.zero_le _, fun _ h => by cases h⟩ (ok_of h).1
theorem fit_dom {x : Ins} (h : rightB x = true) {k : Nat} (hk : k < x.doms.length) : Fits (nth [] x.doms k) :=
  fits_right h (.dom (nth [] x.doms k)) (by simp only [stsOf, List.mem_append, List.mem_map]; exact .inl ⟨_, nth_mem _ hk, rfl⟩)
theorem fit_con {x : Ins} (h : rightB x = true) {k : Nat} (hk : k < x.hard.length) : fitSt (.hard (nth default x.hard k)) :=
  fits_right h (.hard (nth default x.hard k)) (by simp only [stsOf, List.mem_append, List.mem_map]; exact .inr (.inl ⟨_, nth_mem _ hk, rfl⟩))
theorem fit_sft {x : Ins} (h : rightB x = true) {k : Nat} (hk : k < x.soft.length) : fitSt (.soft (nth default x.soft k)) ∧ (nth default x.soft k).rows.length = (nth default x.soft k).costs.length := by
  refine ⟨fits_right h (.soft (nth default x.soft k)) (by simp only [stsOf, List.mem_append, List.mem_map]; exact .inr (.inr ⟨_, nth_mem _ hk, rfl⟩)), ?_⟩
  have := (right_parts h).2.2.2.2 _ (nth_mem default hk)
  simp only [softB, Bool.and_eq_true, decide_eq_true_eq] at this
  omega
def TxtRel {α : Type} (W1 : World) (pre : List UInt8) (P : List α → List UInt8) (l : List α) (g : Nat) (s i : Value) (wr : World) : Prop :=
  ∃ k : Nat, ∃ sb : ByteArray, i = .int .i64 k ∧ k ≤ l.length ∧ s = .string sb ∧ Hid (sb = ⟨(pre ++ P (l.take k)).toArray⟩) ∧ Hid (Below W1.heap.size W1 wr) ∧ g = l.length - k
def CosRel (W2 : World) (pre : List UInt8) (c : Sft) (g : Nat) (s i : Value) (wr : World) : Prop :=
  ∃ k : Nat, ∃ sb : ByteArray, i = .int .i64 k ∧ k ≤ c.rows.length ∧ s = .string sb ∧ Hid (sb = ⟨(pre ++ costsP (c.rows.take k) (c.costs.take k)).toArray⟩) ∧ Hid (Below W2.heap.size W2 wr) ∧ g = c.rows.length - k
set_option maxRecDepth 100000 in
set_option maxHeartbeats 1000000 in
theorem refprint_wrong (vD vH vS : Value) (x : Ins) (ok : Nat → Prop) (w : World) (hx : InsAt w ok vD vH vS x) (hr : rightB x = false) :
    Calls Tryz.prog 16 #[.agg #[vD, vH, vS]] w fun e w' => e = .returned (.string ⟨(printP x).toArray⟩) ∧ Below w.heap.size w w' := by
  have hP : printP x = [] := by unfold printP; rw [hr]; rfl
  obtain ⟨⟨AD, cD, rfl, hcD, hmD, hAD⟩, ⟨AH, cH, rfl, hcH, hmH, hAH⟩, ⟨AS, cS, rfl, hcS, hmS, hAS⟩⟩ := hx
  have HB := Lib.hid (below_alloc1 w (.cells #[.slice AD x.doms.length cD, .slice AH x.hard.length cH, .slice AS x.soft.length cS] 26))
  have HR := Lib.hid (refright_any _ _ _ x ok _ (Sl.below (v := .slice AD x.doms.length cD) (xs := x.doms) (by decide) ⟨AD, cD, rfl, hcD, hmD, hAD⟩ HB.out) (Sl.below (v := .slice AH x.hard.length cH) (xs := x.hard) (by decide) ⟨AH, cH, rfl, hcH, hmH, hAH⟩ HB.out) (Sl.below (v := .slice AS x.soft.length cS) (xs := x.soft) (by decide) ⟨AS, cS, rfl, hcS, hmS, hAS⟩ HB.out))
  rw [hr] at HR
  have HP := Lib.hid hP
  clear hP hr hAD hAH hAS
  go_enter Tryz.func16, Tryz.ntmps16
  go_wp2_with (go_at_call 13; refine HR.out.mono ?_; rintro e w' ⟨rfl, hb⟩; have hb' := Lib.hid hb; clear hb)
  go_ret
  exact ⟨ret_str (by rw [HP.out]), below_next HB.out hb'.out⟩
set_option maxRecDepth 100000 in
set_option maxHeartbeats 8000000 in
theorem refprint_right (vD vH vS : Value) (x : Ins) (ok : Nat → Prop) (w : World) (hx : InsAt w ok vD vH vS x) (hr : rightB x = true) (hlen : (printP x).length ≤ 140737488355328) :
    Calls Tryz.prog 16 #[.agg #[vD, vH, vS]] w fun e w' => e = .returned (.string ⟨(printP x).toArray⟩) ∧ Below w.heap.size w w' := by
  have hP : printP x = domsP x.doms ++ hardsP x.hard ++ softsP x.soft := by unfold printP; rw [if_pos hr]
  have hl : (domsP x.doms).length + (hardsP x.hard).length + (softsP x.soft).length ≤ 140737488355328 := by rw [hP, List.length_append, List.length_append] at hlen; exact hlen
  have HL := Lib.hid hl
  have HX0 := Lib.hid hx
  obtain ⟨⟨AD, cD, rfl, hcD, hmD, _⟩, ⟨AH, cH, rfl, hcH, hmH, _⟩, ⟨AS, cS, rfl, hcS, hmS, _⟩⟩ := hx
  have HB := Lib.hid (below_alloc1 w (.cells #[.slice AD x.doms.length cD, .slice AH x.hard.length cH, .slice AS x.soft.length cS] 26))
  have HX := Lib.hid (HX0.out.below HB.out)
  have HG := Lib.hid (heap_alloc_new w (.cells #[.slice AD x.doms.length cD, .slice AH x.hard.length cH, .slice AS x.soft.length cS] 26))
  have HR := Lib.hid (refright_any _ _ _ x ok _ HX.out.1 HX.out.2.1 HX.out.2.2)
  rw [hr] at HR
  have HP := Lib.hid hP
  have Hr := Lib.hid hr
  clear hP hr hlen hl HX0
  go_enter Tryz.func16, Tryz.ntmps16
  go_upto_region 1 with fail
  generalize w.alloc (.cells #[.slice AD x.doms.length cD, .slice AH x.hard.length cH, .slice AS x.soft.length cS] 26) = W0 at *
  have x0 := cell_at HG.out (i := 0) rfl
  have x1 := cell_at HG.out (i := 1) rfl
  have x2 := cell_at HG.out (i := 2) rfl
  go_wp2_with (go_at_call 13; refine HR.out.mono ?_; rintro e W1 ⟨rfl, hb⟩; (have HB1 := Lib.hid (below_next HB.out hb)); (have HX1 := Lib.hid (HX.out.below hb)); (have HG1 := Lib.hid (block_kept hb HG.out)); (have y0 := cell_at HG1.out (i := 0) rfl); clear hb HR)
  clear HB HX HG x0 x1 x2 y0
  go_loopg [4, 5] x.doms.length (fun g s i wr => TxtRel W1 [] domsP x.doms g s i wr)
  case atStart => exact ⟨0, _, rfl, Nat.zero_le _, rfl, Lib.hid rfl, Lib.hid (Below.refl _ _), rfl⟩
  case round =>
    obtain ⟨k, sb, rfl, hk, rfl, hs, HK, hg⟩ := hrel
    have HGG := Lib.hid hg
    have x0 := cell_at (block_kept HK.out HG1.out) (i := 0) rfl
    have hll := HL.out
    clear hg
    by_cases hlt : k < x.doms.length
    · obtain ⟨b1, o1, vt, rfl, g1, ht⟩ := HX1.out.1.elems.row hlt
      have HT := Lib.hid (ht.below (by decide) HK.out)
      obtain ⟨At, ct, rfl, _, _, _⟩ := ht
      have yv := cell_kept HK.out g1
      have hst : domsP (x.doms.take (k + 1)) = domsP (x.doms.take k) ++ (varT ++ numsP (nth [] x.doms k) ++ endT) := flat_step _ [] x.doms k hlt
      have hle : (domsP (x.doms.take (k + 1))).length ≤ (domsP x.doms).length := flat_take_le _ x.doms (k + 1)
      rw [hst] at hle
      simp only [List.length_append, varT, endT, List.length_cons, List.length_nil] at hle
      have HNB := Lib.hid (refnums_any _ _ ok _ HT.out (fit_dom Hr.out hlt))
      have hnz : (⟨(numsP (nth [] x.doms k)).toArray⟩ : ByteArray).size = (numsP (nth [] x.doms k)).length := size_mk _
      have hsz : sb.size = (domsP (x.doms.take k)).length := by rw [hs.out, size_mk]; rfl
      have hs3 : sb.size ≤ 140737488355328 := by omega
      have hs4 : (⟨(numsP (nth [] x.doms k)).toArray⟩ : ByteArray).size ≤ 140737488355328 := by omega
      have HQ : Hid (sb ++ ⟨#[118, 97, 114]⟩ ++ ⟨(numsP (nth [] x.doms k)).toArray⟩ ++ ⟨#[59, 10]⟩ = ⟨([] ++ domsP (x.doms.take (k + 1))).toArray⟩) := Lib.hid (by
        rw [hst, hs.out, show (⟨#[118, 97, 114]⟩ : ByteArray) = ⟨[118, 97, 114].toArray⟩ from rfl, show (⟨#[59, 10]⟩ : ByteArray) = ⟨[59, 10].toArray⟩ from rfl, ba_app, ba_app, ba_app, varT, endT]; simp only [List.append_assoc])
      generalize (⟨(numsP (nth [] x.doms k)).toArray⟩ : ByteArray) = nb at *
      clear hst hs hnz hsz hle hll HT g1
      go_wp2_with (go_at_call 40; refine HNB.out.mono ?_; rintro e w3 ⟨rfl, hb⟩; (have HB3 := Lib.hid (below_next HK.out hb)); clear hb HNB)
      go_roundg (x.doms.length - (k + 1))
      case rel => exact ⟨k + 1, _, by go_num, by omega, rfl, HQ, HB3, rfl⟩
      case measure => have := HGG.out; omega
    · obtain rfl : k = x.doms.length := by omega
      have hs2 := hs.out
      rw [List.take_of_length_le (Nat.le_refl _), List.nil_append] at hs2
      have HS2 := Lib.hid hs2
      clear hs hs2 hlt hk HGG
      go_wp2_with fail
      clear x0
      go_loopg [4, 6] x.hard.length (fun g s i wr => TxtRel W1 (domsP x.doms) hardsP x.hard g s i wr)
      case atStart => exact ⟨0, _, rfl, Nat.zero_le _, rfl, Lib.hid (by rw [HS2.out]; simp [hardsP]), HK, rfl⟩
      case round =>
        clear HS2 HK
        obtain ⟨k, sb, rfl, hk, rfl, hs, HK, hg⟩ := hrel
        have HGG := Lib.hid hg
        have x1 := cell_at (block_kept HK.out HG1.out) (i := 1) rfl
        clear hg
        by_cases hlt : k < x.hard.length
        · obtain ⟨b, o, cs, rfl, _, hKK, hcell⟩ := HX1.out.2.1.elems k (nth default x.hard k) (nth_get default x.hard k hlt)
          obtain ⟨vs, vr, va, rfl, e1, e2, e3⟩ := kCon_cells hKK
          have f0 := cell_kept HK.out (hcell 0 _ rfl)
          have f1 := cell_kept HK.out (hcell 1 _ rfl)
          have f2 := cell_kept HK.out (hcell 2 _ rfl)
          have f3 := cell_kept HK.out (hcell 3 _ rfl)
          simp only [show kCon.sz = 4 from rfl, Nat.add_zero, ← Nat.add_assoc] at f0 f1 f2 f3
          have hst : hardsP (x.hard.take (k + 1)) = hardsP (x.hard.take k) ++ (hardP (nth default x.hard k) ++ endT) := flat_step _ default x.hard k hlt
          have hle : (hardsP (x.hard.take (k + 1))).length ≤ (hardsP x.hard).length := flat_take_le _ x.hard (k + 1)
          rw [hst] at hle
          have hfc := fit_con Hr.out hlt
          generalize nth default x.hard k = c at *
          simp only [List.length_append, endT, List.length_cons, List.length_nil] at hle
          have HNB := Lib.hid (refline_any vs vr va c ok _ (e1.below (by decide) HK.out) (e2.below (by decide) HK.out) (e3.below (by decide) HK.out) hfc (by omega))
          have hnz : (⟨(hardP c ++ endT).toArray⟩ : ByteArray).size = (hardP c).length + 2 := by rw [size_mk, List.length_append]; rfl
          have hsz : sb.size = (domsP x.doms).length + (hardsP (x.hard.take k)).length := by rw [hs.out, size_mk, List.length_append]
          have hs3 : sb.size ≤ 140737488355328 := by omega
          have hs4 : (⟨(hardP c ++ endT).toArray⟩ : ByteArray).size ≤ 140737488355328 := by omega
          have HQ : Hid (sb ++ ⟨(hardP c ++ endT).toArray⟩ = ⟨(domsP x.doms ++ hardsP (x.hard.take (k + 1))).toArray⟩) := Lib.hid (by
            rw [hst, hs.out, ba_app]; simp only [List.append_assoc])
          generalize (⟨(hardP c ++ endT).toArray⟩ : ByteArray) = nb at *
          clear hst hs hnz hsz hle hll hfc hcell hKK e1 e2 e3
          go_wp2_with (go_at_call 41; refine HNB.out.mono ?_; rintro e w3 ⟨rfl, hb⟩; (have HB3 := Lib.hid (below_next HK.out hb)); clear hb HNB)
          go_roundg (x.hard.length - (k + 1))
          case rel => exact ⟨k + 1, _, by go_num, by omega, rfl, HQ, HB3, rfl⟩
          case measure => have := HGG.out; omega
        · obtain rfl : k = x.hard.length := by omega
          have hs2 := hs.out
          rw [List.take_of_length_le (Nat.le_refl _)] at hs2
          have HS2 := Lib.hid hs2
          clear hs hs2 hlt hk HGG
          go_wp2_with fail
          clear x1
          go_loopg [4, 7] x.soft.length (fun g s i wr => TxtRel W1 (domsP x.doms ++ hardsP x.hard) softsP x.soft g s i wr)
          case atStart => exact ⟨0, _, rfl, Nat.zero_le _, rfl, Lib.hid (by rw [HS2.out]; simp [softsP]), HK, rfl⟩
          case round =>
            clear HS2 HK
            obtain ⟨k, sb, rfl, hk, rfl, hs, HK, hg⟩ := hrel
            have HGG := Lib.hid hg
            have x2 := cell_at (block_kept HK.out HG1.out) (i := 2) rfl
            clear hg
            by_cases hlt : k < x.soft.length
            · obtain ⟨b, o, cs, rfl, _, hKK, hcell⟩ := HX1.out.2.2.elems k (nth default x.soft k) (nth_get default x.soft k hlt)
              obtain ⟨vs, vr, vc, rfl, e1, e2, e3⟩ := kSft_cells hKK
              have f0 := cell_kept HK.out (hcell 0 _ rfl)
              have f1 := cell_kept HK.out (hcell 1 _ rfl)
              have f2 := cell_kept HK.out (hcell 2 _ rfl)
              have f3 := cell_kept HK.out (hcell 3 _ rfl)
              simp only [show kSft.sz = 4 from rfl, Nat.add_zero, ← Nat.add_assoc] at f0 f1 f2 f3
              have hst : softsP (x.soft.take (k + 1)) = softsP (x.soft.take k) ++ (softP (nth default x.soft k) ++ endT) := flat_step _ default x.soft k hlt
              have hle : (softsP (x.soft.take (k + 1))).length ≤ (softsP x.soft).length := flat_take_le _ x.soft (k + 1)
              rw [hst] at hle
              obtain ⟨⟨fs, fd, fr, fc⟩, hrc⟩ := fit_sft Hr.out hlt
              generalize nth default x.soft k = c at *
              have E1 := Lib.hid (e1.below (by decide) HK.out)
              have E2 := Lib.hid (e2.below (by decide) HK.out)
              have E3 := Lib.hid (e3.below (by decide) HK.out)
              obtain ⟨A1, k1, rfl, hc1, hm1, _⟩ := e1
              obtain ⟨A2, k2, rfl, hc2, hm2, _⟩ := e2
              obtain ⟨A3, k3, rfl, hc3, hm3, _⟩ := e3
              have FS := Lib.hid fs
              have FD := Lib.hid fd
              have FR := Lib.hid fr
              have FC := Lib.hid fc
              have HRC := Lib.hid hrc
              have HST := Lib.hid hst
              have HLE := Lib.hid hle
              clear hcell hKK fs fd fr fc hrc hst hle
              go_upto_region 17 with fail
              have hal := below_alloc1 wr (.cells #[.slice A1 c.scope.length k1, .slice A2 c.rows.length k2, .slice A3 c.costs.length k3, .int .i64 c.dflt] 47)
              have HG2 := Lib.hid (heap_alloc_new wr (.cells #[.slice A1 c.scope.length k1, .slice A2 c.rows.length k2, .slice A3 c.costs.length k3, .int .i64 c.dflt] 47))
              have HK2 := Lib.hid (below_next HK.out hal)
              have E1 := Lib.hid (E1.out.below (by decide) hal)
              have E2 := Lib.hid (E2.out.below (by decide) hal)
              have E3 := Lib.hid (E3.out.below (by decide) hal)
              have hle := HLE.out
              have hcp : (softP c).length = 4 + (numsP c.scope).length + 1 + (numsP [c.dflt]).length + (costsP c.rows c.costs).length := by simp only [softP, softT, List.length_append, List.length_cons, List.length_nil]
              simp only [List.length_append, endT, List.length_cons, List.length_nil] at hle
              have hsz : sb.size = (domsP x.doms).length + (hardsP x.hard).length + (softsP (x.soft.take k)).length := by rw [hs.out, size_mk, List.length_append, List.length_append]
              have hs1 : sb.size + 4 + (numsP c.scope).length + 1 + (numsP [c.dflt]).length + (costsP c.rows c.costs).length + 2 ≤ 140737488355328 := by omega
              have hsn : (⟨(numsP c.scope).toArray⟩ : ByteArray).size = (numsP c.scope).length := size_mk _
              have hsd : (⟨(numsP [c.dflt]).toArray⟩ : ByteArray).size = (numsP [c.dflt]).length := size_mk _
              have HS1 := Lib.hid hs1
              have HSZ := Lib.hid hsz
              have HPRE : Hid (sb ++ ⟨#[115, 111, 102, 116]⟩ ++ ⟨(numsP c.scope).toArray⟩ ++ ⟨#[58]⟩ ++ ⟨(numsP [c.dflt]).toArray⟩ = ⟨(domsP x.doms ++ hardsP x.hard ++ softsP (x.soft.take k) ++ (softT ++ numsP c.scope ++ [58] ++ numsP [c.dflt])).toArray⟩) := Lib.hid (by
                rw [hs.out, show (⟨#[115, 111, 102, 116]⟩ : ByteArray) = ⟨softT.toArray⟩ from rfl, show (⟨#[58]⟩ : ByteArray) = ⟨[58].toArray⟩ from rfl, ba_app, ba_app, ba_app, ba_app]; simp only [List.append_assoc])
              have hs2 : sb.size ≤ 140737488355328 := by omega
              have hs3 : (⟨(numsP c.scope).toArray⟩ : ByteArray).size ≤ 140737488355328 := by omega
              have hs4 : (⟨(numsP [c.dflt]).toArray⟩ : ByteArray).size ≤ 140737488355328 := by omega
              have HN1 := Lib.hid fun (W : World) (hb : Below (wr.alloc (.cells #[.slice A1 c.scope.length k1, .slice A2 c.rows.length k2, .slice A3 c.costs.length k3, .int .i64 c.dflt] 47)).heap.size (wr.alloc (.cells #[.slice A1 c.scope.length k1, .slice A2 c.rows.length k2, .slice A3 c.costs.length k3, .int .i64 c.dflt] 47)) W) => refnums_any _ _ ok W (E1.out.below (by decide) hb) FS.out
              have HN2 := Lib.hid fun (v : Value) (okd : Nat → Prop) (W : World) (h : Sl (Kd.int .i64) W okd v [c.dflt]) => refnums_any v [c.dflt] okd W h (fits_one FD.out)
              have hbz := hal.size
              have hlt2 : wr.heap.size < (wr.alloc (.cells #[.slice A1 c.scope.length k1, .slice A2 c.rows.length k2, .slice A3 c.costs.length k3, .int .i64 c.dflt] 47)).heap.size := by simp
              clear hal HK hs hle hcp hsz hs1 hsn hsd hll HLE f0 f1 f2 f3 x2
              generalize wr.alloc (.cells #[.slice A1 c.scope.length k1, .slice A2 c.rows.length k2, .slice A3 c.costs.length k3, .int .i64 c.dflt] 47) = W2 at *
              generalize wr.heap.size = gz at *
              have HBZ : Hid ((⟨(numsP c.scope).toArray⟩ : ByteArray).size = (numsP c.scope).length ∧ (⟨(numsP [c.dflt]).toArray⟩ : ByteArray).size = (numsP [c.dflt]).length) := Lib.hid ⟨size_mk _, size_mk _⟩
              generalize (⟨(numsP c.scope).toArray⟩ : ByteArray) = nb at *
              generalize (⟨(numsP [c.dflt]).toArray⟩ : ByteArray) = db at *
              go_cut [4] from 58 to 69 (fun s4 wx => ∃ sc : ByteArray, s4 = .string sc ∧ Hid (sc = sb ++ ⟨#[115, 111, 102, 116]⟩ ++ nb ++ ⟨#[58]⟩ ++ db) ∧ Hid (Below W2.heap.size W2 wx))
              case first =>
                refine wp_region_plan (fun w' => w'.cell? ⟨gz, 0, none⟩ = some (.slice A1 c.scope.length k1) ∧ w'.cell? ⟨gz, 3, none⟩ = some (.int .i64 c.dflt)) [true, true, true, true, false, true, true, true, true, false, false, false, false] (.take 0 (.take 1 (.take 2 (.take 3 (.take 7 (.take 8 (.two 4 9 (.take 5 (.take 6 (.one 9 (.one 10 (.one 11 (.one 12 .done)))))) (.one 4 (.take 5 (.take 6 (.one 10 (.one 11 (.one 12 .done))))))))))))) (by kernel_rfl) (by kernel_rfl) (fun c a d v w h => by cases d <;> exact h) ?_
                change wpPlan _ _ _ _ _ _ _ (World.drew W2)
                have HBD := Lib.hid (Below.drew (Below.refl W2.heap.size W2))
                have y0 : (World.drew W2).cell? ⟨gz, 0, none⟩ = some (.slice A1 c.scope.length k1) := cell_at (block_kept HBD.out HG2.out) (i := 0) rfl
                have y3 : (World.drew W2).cell? ⟨gz, 3, none⟩ = some (.int .i64 c.dflt) := cell_at (block_kept HBD.out HG2.out) (i := 3) rfl
                generalize World.drew W2 = W3 at *
                have hq1 : sb.size + 4 ≤ 9223372036854775807 := by omega
                repeat (refine plan_take rfl ⟨y0, y3⟩ rfl (fun w' hw' => by (obtain ⟨u0, u3⟩ := hw'; (try go_simp); try rfl)) (fun K hK => ?_); go_simp; refine hK _ _ ?_; clear hK K)
                refine plan_take (v := .string (sb ++ ⟨#[115, 111, 102, 116]⟩)) rfl ⟨y0, y3⟩ rfl (fun w' _ => by (go_simp; try omega)) (fun K hK => ?_)
                go_simp; refine hK _ _ ?_; clear hK K
                repeat (refine plan_take rfl ⟨y0, y3⟩ rfl (fun w' hw' => by (obtain ⟨u0, u3⟩ := hw'; (try go_simp); try rfl)) (fun K hK => ?_); go_simp; refine hK _ _ ?_; clear hK K)
                refine plan_two ?_ ?_
                · refine plan_one rfl rfl (fun K hK => ?_)
                  go_wp2_with (go_at_call 40; refine (HN1.out _ HBD.out).mono ?_; rintro e w4 ⟨rfl, hb4⟩)
                  have HB34 := Lib.hid hb4
                  have HB4 := Lib.hid (below_next HBD.out hb4)
                  have z0 := cell_kept hb4 y0
                  have z3 := cell_kept hb4 y3
                  clear y0 y3 HBD
                  refine hK _ _ ⟨z0, z3⟩ ?_
                  clear hK K hb4
                  have hq2 : (sb ++ ⟨#[115, 111, 102, 116]⟩).size + nb.size ≤ 9223372036854775807 := by rw [ByteArray.size_append, show (ByteArray.mk #[115, 111, 102, 116]).size = 4 from rfl]; omega
                  refine plan_take (v := .string (sb ++ ⟨#[115, 111, 102, 116]⟩ ++ nb)) rfl ⟨z0, z3⟩ rfl (fun w' _ => by (go_simp; try omega)) (fun K hK => ?_)
                  go_simp; refine hK _ _ ?_; clear hK K
                  have hq3 : (sb ++ ⟨#[115, 111, 102, 116]⟩ ++ nb).size + 1 ≤ 9223372036854775807 := by rw [ByteArray.size_append, ByteArray.size_append, show (ByteArray.mk #[115, 111, 102, 116]).size = 4 from rfl]; omega
                  refine plan_take (v := .string (sb ++ ⟨#[115, 111, 102, 116]⟩ ++ nb ++ ⟨#[58]⟩)) rfl ⟨z0, z3⟩ rfl (fun w' _ => by (go_simp; try omega)) (fun K hK => ?_)
                  go_simp; refine hK _ _ ?_; clear hK K
                  refine plan_one rfl rfl (fun K hK => ?_)
                  go_wp2_with fail
                  have hal := below_alloc1 w4 (.cells #[.int .i64 c.dflt] 3)
                  have HB5 := Lib.hid (below_next HB4.out hal)
                  have y0 := cell_kept hal z0
                  have y3 := cell_kept hal z3
                  clear z0 z3 HB4
                  refine hK _ _ ⟨y0, y3⟩ ?_
                  clear hK K hal
                  refine plan_one rfl rfl (fun K hK => ?_)
                  go_wp2_with (go_at_call 40; refine (HN2.out _ _ _ (lit_one w4 _)).mono ?_; rintro e w6 ⟨rfl, hb6⟩)
                  have HB6 := Lib.hid (below_next HB5.out hb6)
                  have y0 := cell_kept hb6 y0
                  have y3 := cell_kept hb6 y3
                  refine hK _ _ ⟨y0, y3⟩ ?_
                  clear hK K hb6
                  have hq4 : (sb ++ ⟨#[115, 111, 102, 116]⟩ ++ nb ++ ⟨#[58]⟩).size + db.size ≤ 9223372036854775807 := by rw [ByteArray.size_append, ByteArray.size_append, ByteArray.size_append, show (ByteArray.mk #[115, 111, 102, 116]).size = 4 from rfl, show (ByteArray.mk #[58]).size = 1 from rfl]; omega
                  generalize hse : sb ++ ⟨#[115, 111, 102, 116]⟩ ++ nb ++ ⟨#[58]⟩ = se at *
                  refine plan_one rfl rfl (fun K hK => ?_)
                  go_wp2_with fail
                  refine hK _ _ ⟨y0, y3⟩ ?_
                  clear hK K
                  refine plan_one rfl rfl (fun K hK => ?_)
                  go_wp2_with fail
                  refine hK _ _ ⟨y0, y3⟩ ?_
                  clear hK K
                  refine plan_done ?_
                  go_wp2_with fail
                  go_meet
                  case rel => exact ⟨_, rfl, Lib.hid rfl, HB6⟩
                · refine plan_one rfl rfl (fun K hK => ?_)
                  go_wp2_with fail
                  have hal := below_alloc1 W3 (.cells #[.int .i64 c.dflt] 3)
                  have HLT := Lib.hid (Sl.below (by decide) (lit_one W3 c.dflt) (Below.refl _ _))
                  have HB5 := Lib.hid (below_next HBD.out hal)
                  have z0 := cell_kept hal y0
                  have z3 := cell_kept hal y3
                  refine hK _ _ ⟨z0, z3⟩ ?_
                  clear hK K hal y0 y3 HBD
                  refine plan_one rfl rfl (fun K hK => ?_)
                  go_wp2_with (go_at_call 40; refine (HN1.out _ HB5.out).mono ?_; rintro e w4 ⟨rfl, hb4⟩)
                  have HB34 := Lib.hid hb4
                  have HB4 := Lib.hid (below_next HB5.out hb4)
                  have y0 := cell_kept hb4 z0
                  have y3 := cell_kept hb4 z3
                  clear z0 z3 HB5
                  refine hK _ _ ⟨y0, y3⟩ ?_
                  clear hK K hb4
                  have hq2 : (sb ++ ⟨#[115, 111, 102, 116]⟩).size + nb.size ≤ 9223372036854775807 := by rw [ByteArray.size_append, show (ByteArray.mk #[115, 111, 102, 116]).size = 4 from rfl]; omega
                  refine plan_take (v := .string (sb ++ ⟨#[115, 111, 102, 116]⟩ ++ nb)) rfl ⟨y0, y3⟩ rfl (fun w' _ => by (go_simp; try omega)) (fun K hK => ?_)
                  go_simp; refine hK _ _ ?_; clear hK K
                  have hq3 : (sb ++ ⟨#[115, 111, 102, 116]⟩ ++ nb).size + 1 ≤ 9223372036854775807 := by rw [ByteArray.size_append, ByteArray.size_append, show (ByteArray.mk #[115, 111, 102, 116]).size = 4 from rfl]; omega
                  refine plan_take (v := .string (sb ++ ⟨#[115, 111, 102, 116]⟩ ++ nb ++ ⟨#[58]⟩)) rfl ⟨y0, y3⟩ rfl (fun w' _ => by (go_simp; try omega)) (fun K hK => ?_)
                  go_simp; refine hK _ _ ?_; clear hK K
                  refine plan_one rfl rfl (fun K hK => ?_)
                  go_wp2_with (go_at_call 40; refine (HN2.out _ _ _ (HLT.out.below (by decide) HB34.out)).mono ?_; rintro e w6 ⟨rfl, hb6⟩)
                  have HB6 := Lib.hid (below_next HB4.out hb6)
                  have y0 := cell_kept hb6 y0
                  have y3 := cell_kept hb6 y3
                  refine hK _ _ ⟨y0, y3⟩ ?_
                  clear hK K hb6
                  have hq4 : (sb ++ ⟨#[115, 111, 102, 116]⟩ ++ nb ++ ⟨#[58]⟩).size + db.size ≤ 9223372036854775807 := by rw [ByteArray.size_append, ByteArray.size_append, ByteArray.size_append, show (ByteArray.mk #[115, 111, 102, 116]).size = 4 from rfl, show (ByteArray.mk #[58]).size = 1 from rfl]; omega
                  generalize hse : sb ++ ⟨#[115, 111, 102, 116]⟩ ++ nb ++ ⟨#[58]⟩ = se at *
                  refine plan_one rfl rfl (fun K hK => ?_)
                  go_wp2_with fail
                  refine hK _ _ ⟨y0, y3⟩ ?_
                  clear hK K
                  refine plan_one rfl rfl (fun K hK => ?_)
                  go_wp2_with fail
                  refine hK _ _ ⟨y0, y3⟩ ?_
                  clear hK K
                  refine plan_done ?_
                  go_wp2_with fail
                  go_meet
                  case rel => exact ⟨_, rfl, Lib.hid rfl, HB6⟩
              case rest =>
                obtain ⟨sc, rfl, hsc, HB6⟩ := hcut
                have hscz : sc.size = sb.size + 4 + nb.size + 1 + db.size := by rw [hsc.out, ByteArray.size_append, ByteArray.size_append, ByteArray.size_append, ByteArray.size_append]; rfl
                have HSC := Lib.hid (hsc.out.trans HPRE.out)
                have hll := HS1.out
                have hbz2 := HBZ.out
                have HS5 : Hid (sc.size + (costsP c.rows c.costs).length + 2 ≤ 140737488355328) := Lib.hid (by omega)
                clear hsc hscz HPRE HS1 hs2 hs3 hs4 HN1 HN2 hll hbz2 HBZ
                generalize hpre : domsP x.doms ++ hardsP x.hard ++ softsP (x.soft.take k) ++ (softT ++ numsP c.scope ++ [58] ++ numsP [c.dflt]) = pre at *
                have HPRE := Lib.hid hpre
                have hzp : sc.size = pre.length := by rw [HSC.out, size_mk]
                clear hpre
                go_wp2_with fail
                go_loopg [4, 9] c.rows.length (fun g s i wr => CosRel W2 pre c g s i wr)
                case atStart => exact ⟨0, _, rfl, Nat.zero_le _, rfl, Lib.hid (by rw [HSC.out]; simp [costsP]), HB6, rfl⟩
                case round =>
                  clear HSC HB6
                  obtain ⟨q, tb, rfl, hq, rfl, ht, HT, hg⟩ := hrel
                  have HGQ := Lib.hid hg
                  have y1 : wr.cell? ⟨gz, 1, none⟩ = some (.slice A2 c.rows.length k2) := cell_at (block_kept HT.out HG2.out) (i := 1) rfl
                  clear hg
                  have hll := HS5.out
                  by_cases hlt : q < c.rows.length
                  · obtain ⟨b2, o2, vt, rfl, g1, htt⟩ := E2.out.elems.row hlt
                    have TT := Lib.hid (htt.below (by decide) HT.out)
                    obtain ⟨At, ct, rfl, _, _, _⟩ := htt
                    obtain ⟨b3, o3, rfl, g3⟩ := E3.out.elems.num (j := q) (by have := HRC.out; omega)
                    have hlt3 : q < c.costs.length := by have := HRC.out; omega
                    have hst := costsP_step c.rows c.costs q hlt HRC.out
                    have hle := costsP_take_le c.rows c.costs (q + 1) HRC.out
                    rw [hst] at hle
                    simp only [List.length_append, List.length_cons, List.length_nil] at hle
                    have hft := FR.out (nth [] c.rows q) (nth_mem [] hlt)
                    have hfc := fits_one (FC.out q hlt3)
                    have HN1 := Lib.hid fun (W : World) (hb : Below wr.heap.size wr W) => refnums_any _ _ ok W (TT.out.below (by decide) hb) hft
                    have HN2 := Lib.hid fun (v : Value) (okd : Nat → Prop) (W : World) (h : Sl (Kd.int .i64) W okd v [nth 0 c.costs q]) => refnums_any v [nth 0 c.costs q] okd W h hfc
                    have hsz : tb.size = pre.length + (costsP (c.rows.take q) (c.costs.take q)).length := by rw [ht.out, size_mk, List.length_append]
                    have hsn : (⟨(numsP (nth [] c.rows q)).toArray⟩ : ByteArray).size = (numsP (nth [] c.rows q)).length := size_mk _
                    have hsd : (⟨(numsP [nth 0 c.costs q]).toArray⟩ : ByteArray).size = (numsP [nth 0 c.costs q]).length := size_mk _
                    have hs2 : tb.size ≤ 140737488355328 := by omega
                    have hs3 : (⟨(numsP (nth [] c.rows q)).toArray⟩ : ByteArray).size ≤ 140737488355328 := by omega
                    have hs4 : (⟨(numsP [nth 0 c.costs q]).toArray⟩ : ByteArray).size ≤ 140737488355328 := by omega
                    have HQ : Hid (tb ++ ⟨#[44]⟩ ++ ⟨(numsP (nth [] c.rows q)).toArray⟩ ++ ⟨(numsP [nth 0 c.costs q]).toArray⟩ = ⟨(pre ++ costsP (c.rows.take (q + 1)) (c.costs.take (q + 1))).toArray⟩) := Lib.hid (by
                      rw [hst, ht.out, show (⟨#[44]⟩ : ByteArray) = ⟨[44].toArray⟩ from rfl, ba_app, ba_app, ba_app]; simp only [List.append_assoc])
                    clear hst hle hft hfc hsz hsn hsd ht y1 hzp hll HS5 TT HK2
                    generalize (⟨(numsP (nth [] c.rows q)).toArray⟩ : ByteArray) = nb at *
                    generalize (⟨(numsP [nth 0 c.costs q]).toArray⟩ : ByteArray) = db at *
                    have y1 : wr.cell? ⟨gz, 1, none⟩ = some (.slice (some ⟨b2, o2, none⟩) c.rows.length k2) := cell_at (block_kept HT.out HG2.out) (i := 1) rfl
                    have y2 : wr.cell? ⟨gz, 2, none⟩ = some (.slice (some ⟨b3, o3, none⟩) c.costs.length k3) := cell_at (block_kept HT.out HG2.out) (i := 2) rfl
                    have yv := cell_kept HT.out g1
                    have ya := cell_kept HT.out g3
                    clear g1 g3
                    go_upto_block 7 with fail
                    go_cut [4] from 77 to 93 (fun s4 wx => ∃ sc : ByteArray, s4 = .string sc ∧ Hid (sc = tb ++ ⟨#[44]⟩ ++ nb ++ db) ∧ Hid (Below wr.heap.size wr wx))
                    case first =>
                      go_upto_region 21 with fail
                      refine wp_region_plan (fun w' => w'.cell? ⟨gz, 1, none⟩ = some (.slice (some ⟨b2, o2, none⟩) c.rows.length k2) ∧ w'.cell? ⟨gz, 2, none⟩ = some (.slice (some ⟨b3, o3, none⟩) c.costs.length k3) ∧ w'.cell? ⟨b2, o2 + q, none⟩ = some (.slice At (nth [] c.rows q).length ct) ∧ w'.cell? ⟨b3, o3 + q, none⟩ = some (.int .i64 (nth 0 c.costs q))) [true, true, true, true, true, true, true, false, true, true, true, true, true, true, false, false, false, false] (.take 0 (.take 1 (.take 2 (.take 3 (.take 4 (.take 5 (.take 6 (.take 9 (.take 10 (.take 11 (.take 12 (.take 13 (.two 7 14 (.take 8 (.one 14 (.one 15 (.one 16 (.one 17 .done))))) (.one 7 (.take 8 (.one 15 (.one 16 (.one 17 .done)))))))))))))))))) (by kernel_rfl) (by kernel_rfl) (fun c a d v w h => by cases d <;> exact h) ?_
                      change wpPlan _ _ _ _ _ _ _ (World.drew wr)
                      have HBD := Lib.hid (Below.drew (Below.refl wr.heap.size wr))
                      have y1 := cell_kept HBD.out y1
                      have y2 := cell_kept HBD.out y2
                      have yv := cell_kept HBD.out yv
                      have ya := cell_kept HBD.out ya
                      generalize World.drew wr = W3 at *
                      have hq1 : tb.size + 1 ≤ 9223372036854775807 := by omega
                      repeat (refine plan_take rfl ⟨y1, y2, yv, ya⟩ rfl (fun w' hw' => by (obtain ⟨u1, u2, u3, u4⟩ := hw'; (try go_simp); try rfl)) (fun K hK => ?_); go_simp; refine hK _ _ ?_; clear hK K)
                      refine plan_take (v := .string (tb ++ ⟨#[44]⟩)) rfl ⟨y1, y2, yv, ya⟩ rfl (fun w' _ => by (go_simp; try omega)) (fun K hK => ?_)
                      go_simp; refine hK _ _ ?_; clear hK K
                      repeat (refine plan_take rfl ⟨y1, y2, yv, ya⟩ rfl (fun w' hw' => by (obtain ⟨u1, u2, u3, u4⟩ := hw'; (try go_simp); try rfl)) (fun K hK => ?_); go_simp; refine hK _ _ ?_; clear hK K)
                      have hq2 : (tb ++ ⟨#[44]⟩).size + nb.size ≤ 9223372036854775807 := by rw [ByteArray.size_append, show (ByteArray.mk #[44]).size = 1 from rfl]; omega
                      have hq3 : (tb ++ ⟨#[44]⟩ ++ nb).size + db.size ≤ 9223372036854775807 := by rw [ByteArray.size_append, ByteArray.size_append, show (ByteArray.mk #[44]).size = 1 from rfl]; omega
                      refine plan_two ?_ ?_
                      · refine plan_one rfl rfl (fun K hK => ?_)
                        go_wp2_with (go_at_call 40; refine (HN1.out _ HBD.out).mono ?_; rintro e w4 ⟨rfl, hb4⟩)
                        have HB34 := Lib.hid hb4
                        have HB4 := Lib.hid (below_next HBD.out hb4)
                        have y1 := cell_kept hb4 y1
                        have y2 := cell_kept hb4 y2
                        have yv := cell_kept hb4 yv
                        have ya := cell_kept hb4 ya
                        refine hK _ _ ⟨y1, y2, yv, ya⟩ ?_
                        clear hK K hb4
                        refine plan_take (v := .string (tb ++ ⟨#[44]⟩ ++ nb)) rfl ⟨y1, y2, yv, ya⟩ rfl (fun w' _ => by (go_simp; try omega)) (fun K hK => ?_)
                        go_simp; refine hK _ _ ?_; clear hK K
                        refine plan_one rfl rfl (fun K hK => ?_)
                        go_wp2_with fail
                        have hal := below_alloc1 w4 (.cells #[.int .i64 (nth 0 c.costs q)] 3)
                        have HB5 := Lib.hid (below_next HB4.out hal)
                        have HLT := Lib.hid (lit_one w4 (nth 0 c.costs q))
                        have y1 := cell_kept hal y1
                        have y2 := cell_kept hal y2
                        have yv := cell_kept hal yv
                        have ya := cell_kept hal ya
                        refine hK _ _ ⟨y1, y2, yv, ya⟩ ?_
                        clear hK K hal
                        generalize hse : tb ++ ⟨#[44]⟩ ++ nb = se at *
                        refine plan_one rfl rfl (fun K hK => ?_)
                        go_wp2_with (go_at_call 40; refine (HN2.out _ _ _ HLT.out).mono ?_; rintro e w6 ⟨rfl, hb6⟩)
                        have HB6 := Lib.hid (below_next HB5.out hb6)
                        have y1 := cell_kept hb6 y1
                        have y2 := cell_kept hb6 y2
                        have yv := cell_kept hb6 yv
                        have ya := cell_kept hb6 ya
                        refine hK _ _ ⟨y1, y2, yv, ya⟩ ?_
                        clear hK K hb6
                        refine plan_one rfl rfl (fun K hK => ?_)
                        go_wp2_with fail
                        refine hK _ _ ⟨y1, y2, yv, ya⟩ ?_
                        clear hK K
                        refine plan_one rfl rfl (fun K hK => ?_)
                        go_wp2_with fail
                        refine hK _ _ ⟨y1, y2, yv, ya⟩ ?_
                        clear hK K
                        refine plan_done ?_
                        go_wp2_with fail
                        go_meet
                        case rel => exact ⟨_, rfl, Lib.hid rfl, HB6⟩
                      · refine plan_one rfl rfl (fun K hK => ?_)
                        go_wp2_with fail
                        have hal := below_alloc1 W3 (.cells #[.int .i64 (nth 0 c.costs q)] 3)
                        have HB5 := Lib.hid (below_next HBD.out hal)
                        have hlit := lit_one W3 (nth 0 c.costs q)
                        have y1 := cell_kept hal y1
                        have y2 := cell_kept hal y2
                        have yv := cell_kept hal yv
                        have ya := cell_kept hal ya
                        refine hK _ _ ⟨y1, y2, yv, ya⟩ ?_
                        clear hK K hal
                        refine plan_one rfl rfl (fun K hK => ?_)
                        go_wp2_with (go_at_call 40; refine (HN1.out _ HB5.out).mono ?_; rintro e w4 ⟨rfl, hb4⟩)
                        have HB34 := Lib.hid hb4
                        have HB4 := Lib.hid (below_next HB5.out hb4)
                        have y1 := cell_kept hb4 y1
                        have y2 := cell_kept hb4 y2
                        have yv := cell_kept hb4 yv
                        have ya := cell_kept hb4 ya
                        refine hK _ _ ⟨y1, y2, yv, ya⟩ ?_
                        clear hK K hb4
                        refine plan_take (v := .string (tb ++ ⟨#[44]⟩ ++ nb)) rfl ⟨y1, y2, yv, ya⟩ rfl (fun w' _ => by (go_simp; try omega)) (fun K hK => ?_)
                        go_simp; refine hK _ _ ?_; clear hK K
                        have HLT := Lib.hid (hlit.below (by decide) HB34.out)
                        clear hlit HB5
                        have HB5 := HB4
                        generalize hse : tb ++ ⟨#[44]⟩ ++ nb = se at *
                        refine plan_one rfl rfl (fun K hK => ?_)
                        go_wp2_with (go_at_call 40; refine (HN2.out _ _ _ HLT.out).mono ?_; rintro e w6 ⟨rfl, hb6⟩)
                        have HB6 := Lib.hid (below_next HB5.out hb6)
                        have y1 := cell_kept hb6 y1
                        have y2 := cell_kept hb6 y2
                        have yv := cell_kept hb6 yv
                        have ya := cell_kept hb6 ya
                        refine hK _ _ ⟨y1, y2, yv, ya⟩ ?_
                        clear hK K hb6
                        refine plan_one rfl rfl (fun K hK => ?_)
                        go_wp2_with fail
                        refine hK _ _ ⟨y1, y2, yv, ya⟩ ?_
                        clear hK K
                        refine plan_one rfl rfl (fun K hK => ?_)
                        go_wp2_with fail
                        refine hK _ _ ⟨y1, y2, yv, ya⟩ ?_
                        clear hK K
                        refine plan_done ?_
                        go_wp2_with fail
                        go_meet
                        case rel => exact ⟨_, rfl, Lib.hid rfl, HB6⟩
                    case rest =>
                      obtain ⟨sd, rfl, hsd, HB6⟩ := hcut
                      have HQ2 := Lib.hid (hsd.out.trans HQ.out)
                      have HB7 := Lib.hid (below_next HT.out HB6.out)
                      clear hsd HQ HN1 HN2 HB6 y1 y2 yv ya
                      go_wp2_with fail
                      go_roundg (c.rows.length - (q + 1))
                      case rel => exact ⟨q + 1, _, by go_num, by omega, rfl, HQ2, HB7, rfl⟩
                      case measure => have := HGQ.out; omega
                  · obtain rfl : q = c.rows.length := by omega
                    have ht2 := ht.out
                    rw [List.take_of_length_le (Nat.le_refl _), List.take_of_length_le (Nat.le_of_eq HRC.out.symm)] at ht2
                    have hsz : tb.size ≤ 140737488355328 := by rw [ht2, size_mk, List.length_append]; omega
                    have HQ : Hid (tb ++ ⟨#[59, 10]⟩ = ⟨(domsP x.doms ++ hardsP x.hard ++ softsP (x.soft.take (k + 1))).toArray⟩) := Lib.hid (by
                      rw [ht2, HST.out, ← HPRE.out, show (⟨#[59, 10]⟩ : ByteArray) = ⟨[59, 10].toArray⟩ from rfl, ba_app, softP, endT]; simp only [List.append_assoc])
                    have HK3 := Lib.hid (HK2.out.trans (HT.out.mono HK2.out.size))
                    clear ht ht2 HPRE HST hlt hq HGQ hll HS5 hzp
                    go_wp2_with fail
                    go_roundg (x.soft.length - (k + 1))
                    case rel => exact ⟨k + 1, _, by go_num, by omega, rfl, HQ, HK3, rfl⟩
                    case measure => have := HGG.out; omega
            · obtain rfl : k = x.soft.length := by omega
              have hs2 := hs.out
              rw [List.take_of_length_le (Nat.le_refl _)] at hs2
              have HRES : Hid (sb = ⟨(printP x).toArray⟩) := Lib.hid (by rw [hs2, HP.out])
              clear hs hs2 hlt hk HGG
              go_wp2_with fail
              go_ret
              exact ⟨ret_str HRES.out, below_next HB1.out HK.out⟩
end Go.Proofs.YtoahaigfjfeopaaGreatDoor

/- arboristlaw06.InstRights. -/
namespace Go.Proofs.YtoahaigfjfeopaaGreatDoor
open Go.RowKit
attribute [local irreducible] wpStill wpLex wpLexO wpPlan Calls

theorem rowsC_rowsC (l : List (List Int)) : rowsC (rowsC l) = rowsC l := by
  simp [rowsC, ← List.map_take, List.take_take, Function.comp_def]
theorem cutI_cutI (x : Ins) : cutI (cutI x) = cutI x := by
  have h1 : ∀ l : List (List Int), (((l.take 42).map cutD).take 42).map cutD = (l.take 42).map cutD := fun l => by
    simp [← List.map_take, List.take_take, Function.comp_def, cutD]
  have h2 : ∀ l : List Con, (((l.take 10).map cutC).take 10).map cutC = (l.take 10).map cutC := fun l => by
    simp [← List.map_take, List.take_take, Function.comp_def, cutC, rowsC_rowsC]
  have h3 : ∀ l : List Sft, (((l.take 10).map cutS).take 10).map cutS = (l.take 10).map cutS := fun l => by
    simp [← List.map_take, List.take_take, Function.comp_def, cutS, rowsC_rowsC]
  simp only [cutI, h1, h2, h3]
theorem refprint_any (vD vH vS : Value) (x : Ins) (ok : Nat → Prop) (w : World) (hx : InsAt w ok vD vH vS x) (hlen : (printP x).length ≤ 140737488355328) :
    Calls Tryz.prog 16 #[.agg #[vD, vH, vS]] w fun e w' => e = .returned (.string ⟨(printP x).toArray⟩) ∧ Below w.heap.size w w' := by
  cases hr : rightB x
  · exact refprint_wrong vD vH vS x ok w hx hr
  · exact refprint_right vD vH vS x ok w hx hr hlen
theorem print_cut_le (z : Ins) : (printP (cutI z)).length ≤ 100000 := by
  cases h : rightB (cutI z)
  · rw [printP, if_neg (by rw [h]; decide)]; decide
  · exact print_cut z h
set_option maxRecDepth 100000 in
set_option maxHeartbeats 8000000 in
theorem rights_law (vD vH vS : Value) (x : Ins) (okv : Nat → Prop) (w : World) (hE : Env w) (hx : InsAt w okv vD vH vS x) :
    Calls Tryz.prog 3 #[.agg #[vD, vH, vS]] w fun e w' => e = .returned (.bool true) ∧ Below w.heap.size w w' := by
  have HS := Lib.hid (fun W (hb : Below w.heap.size w W) => shown_any W (hE.below hb hE.size))
  have HE := Lib.hid hE
  have HX := Lib.hid hx
  obtain ⟨⟨AD, cD, rfl, _⟩, ⟨AH, cH, rfl, _⟩, ⟨AS, cS, rfl, _⟩⟩ := hx
  clear hE
  have HB0 := Lib.hid (below_alloc1 w (.cells #[.slice AD x.doms.length cD, .slice AH x.hard.length cH, .slice AS x.soft.length cS] 26))
  have HC0 := Lib.hid (heap_alloc_new w (.cells #[.slice AD x.doms.length cD, .slice AH x.hard.length cH, .slice AS x.soft.length cS] 26))
  have HZ0 : Hid (w.heap.size + 1 ≤ (w.alloc (.cells #[.slice AD x.doms.length cD, .slice AH x.hard.length cH, .slice AS x.soft.length cS] 26)).heap.size) := Lib.hid (by simp)
  go_enter Tryz.func3, Tryz.ntmps3
  go_wp2_with (go_at_call 11; refine (HS.out _ HB0.out).mono ?_; rintro e w1 ⟨rfl, hb⟩; (have HB1 := Lib.hid (below_next HB0.out hb)); (have HC1 := Lib.hid (block_kept hb HC0.out)); (have HZ1 := Lib.hid (Nat.le_trans HZ0.out hb.size)); (have x0 := cell_at HC1.out (i := 0) rfl); (have x1 := cell_at HC1.out (i := 1) rfl); (have x2 := cell_at HC1.out (i := 2) rfl); clear hb HS HB0 HC0 HZ0)
  refine (cut_any _ _ _ x okv w1 (HX.out.below HB1.out)).mono ?_
  rintro e w2 ⟨⟨dv, hv, sv, rfl, hi⟩, hb⟩
  have HI := Lib.hid hi
  obtain ⟨⟨A1, k1, rfl, _⟩, ⟨A2, k2, rfl, _⟩, ⟨A3, k3, rfl, _⟩⟩ := hi
  have hc2 := block_kept hb HC1.out
  have HB2 := Lib.hid (below_next HB1.out hb)
  have y0 := cell_at hc2 (i := 0) rfl
  have y1 := cell_at hc2 (i := 1) rfl
  have y2 := cell_at hc2 (i := 2) rfl
  have f0 := Lib.frozen_of_heap hc2 0
  have f1 := Lib.frozen_of_heap hc2 1
  have f2 := Lib.frozen_of_heap hc2 2
  have HC2 := Lib.hid hc2
  clear hb hc2 HB1 HC1 x0 x1 x2
  go_upto_region 3 with fail
  obtain ⟨W, hW⟩ : ∃ W, W = ((w2.setCell ⟨w.heap.size, 0, none⟩ (.slice A1 (cutI x).doms.length k1)).setCell ⟨w.heap.size, 1, none⟩ (.slice A2 (cutI x).hard.length k2)).setCell ⟨w.heap.size, 2, none⟩ (.slice A3 (cutI x).soft.length k3) := ⟨_, rfl⟩
  obtain ⟨hcW, hbW, hiW⟩ := cut_stored HZ1.out hW ⟨_, _, _, HC2.out⟩ HB2.out HI.out
  rw [← hW]
  have HCW := Lib.hid hcW
  have HBW := Lib.hid hbW
  have HIW := Lib.hid hiW
  have x0 := cell_at hcW (i := 0) rfl
  have x1 := cell_at hcW (i := 1) rfl
  have x2 := cell_at hcW (i := 2) rfl
  clear hW hcW hbW hiW HI HC2 HB2 HZ1 y0 y1 y2 f0 f1 f2
  have HL := Lib.hid (print_cut_le x)
  have HCC := Lib.hid (cutI_cutI x)
  generalize cutI x = y at *
  clear HX
  have hcut := cut_any _ _ _ y Any W HIW.out
  rw [HCC.out] at hcut
  have HCUT := Lib.hid hcut
  clear hcut HCC
  go_upto_region 4 with (go_at_call 12; refine HCUT.out.mono ?_; rintro e w3 ⟨⟨dv2, hv2, sv2, rfl, hi⟩, hb⟩; (have HI3 := Lib.hid hi); (obtain ⟨⟨B1, l1, rfl, _⟩, ⟨B2, l2, rfl, _⟩, ⟨B3, l3, rfl, _⟩⟩ := hi); (have HB3 := Lib.hid hb); (have x0 := cell_kept hb x0); (have x1 := cell_kept hb x1); (have x2 := cell_kept hb x2); clear hb HCUT)
  have hal := below_alloc1 w3 (.cells #[.slice B1 y.doms.length l1, .slice B2 y.hard.length l2, .slice B3 y.soft.length l3] 26)
  have hu := heap_alloc_new w3 (.cells #[.slice B1 y.doms.length l1, .slice B2 y.hard.length l2, .slice B3 y.soft.length l3] 26)
  have HN4 := Lib.hid (below_next HB3.out hal)
  have HI4 := Lib.hid ((HI3.out.below hal).mono (ok' := Any) (fun _ _ => trivial))
  have x0 := cell_kept hal x0
  have x1 := cell_kept hal x1
  have x2 := cell_kept hal x2
  have HU := Lib.hid hu
  clear hal hu HB3 HI3
  generalize w3.alloc (.cells #[.slice B1 y.doms.length l1, .slice B2 y.hard.length l2, .slice B3 y.soft.length l3] 26) = W4 at *
  have HYI := Lib.hid fun (V : World) (hb : Below W.heap.size W V) => HIW.out.below hb
  have HRR := Lib.hid (refright_any _ _ _ y Any W4 (HYI.out _ HN4.out).1 (HYI.out _ HN4.out).2.1 (HYI.out _ HN4.out).2.2)
  go_upto_region 5 with (go_at_call 13; refine HRR.out.mono ?_; rintro e w5 ⟨rfl, hb⟩; (have HN5 := Lib.hid (below_next HN4.out hb)); (have x0 := cell_kept hb x0); (have x1 := cell_kept hb x1); (have x2 := cell_kept hb x2); (have HU5 := Lib.hid (block_kept hb HU.out)); (have HI5 := Lib.hid (HI4.out.below hb)); clear hb HRR HU HI4 HN4)
  refine wp_region_lexO (fun w' => w'.cell? ⟨w.heap.size, 0, none⟩ = some (.slice A1 y.doms.length k1) ∧ w'.cell? ⟨w.heap.size, 1, none⟩ = some (.slice A2 y.hard.length k2) ∧ w'.cell? ⟨w.heap.size, 2, none⟩ = some (.slice A3 y.soft.length k3) ∧ w'.cell? ⟨w3.heap.size, 0, none⟩ = some (.slice B1 y.doms.length l1) ∧ w'.cell? ⟨w3.heap.size, 1, none⟩ = some (.slice B2 y.hard.length l2) ∧ w'.cell? ⟨w3.heap.size, 2, none⟩ = some (.slice B3 y.soft.length l3)) [(0, true), (1, true), (2, true), (4, true), (3, false), (5, true), (6, true), (7, true), (8, true), (10, true), (9, false), (11, false), (12, true), (13, true), (14, true), (15, true), (16, true), (17, false), (18, true), (19, false)] (by kernel_rfl) (by kernel_rfl) (fun c a d v w h => by cases d <;> exact h) ?_
  change wpLexO _ _ _ _ _ _ _ (World.drew w5)
  have hdr := Below.drew (Below.refl w5.heap.size w5)
  have HN6 := Lib.hid (below_next HN5.out hdr)
  have HI6 := Lib.hid (HI5.out.below hdr)
  have x0 := cell_kept hdr x0
  have x1 := cell_kept hdr x1
  have x2 := cell_kept hdr x2
  have u0 : (World.drew w5).cell? ⟨w3.heap.size, 0, none⟩ = some (.slice B1 y.doms.length l1) := cell_at (block_kept hdr HU5.out) (i := 0) rfl
  have u1 : (World.drew w5).cell? ⟨w3.heap.size, 1, none⟩ = some (.slice B2 y.hard.length l2) := cell_at (block_kept hdr HU5.out) (i := 1) rfl
  have u2 : (World.drew w5).cell? ⟨w3.heap.size, 2, none⟩ = some (.slice B3 y.soft.length l3) := cell_at (block_kept hdr HU5.out) (i := 2) rfl
  clear hdr HN5 HI5 HU5
  generalize World.drew w5 = W6 at *
  repeat (first | (refine lexO_take ⟨x0, x1, x2, u0, u1, u2⟩ rfl (fun w' hw' => by (obtain ⟨v0, v1, v2, v3, v4, v5⟩ := hw'; (try go_simp); try rfl)) (fun K hK => ?_); go_simp; refine hK _ _ ?_; clear hK K) | (refine lexO_take_on _ _ _ _ ⟨x0, x1, x2, u0, u1, u2⟩ rfl rfl rfl rfl (fun w' hw' => by (obtain ⟨v0, v1, v2, v3, v4, v5⟩ := hw'; (try go_simp); try rfl)) (fun K hK => ?_); go_simp; refine hK _ _ ?_; clear hK K))
  refine lexO_step_on _ _ _ _ rfl rfl rfl rfl (fun K hK => ?_)
  go_wp2_with (go_at_call 14; refine (right_any _ _ _ y Any W6 (HYI.out _ HN6.out).1 (HYI.out _ HN6.out).2.1 (HYI.out _ HN6.out).2.2).mono ?_; rintro e w7 ⟨rfl, hb⟩)
  have HN7 := Lib.hid (below_next HN6.out hb)
  have HB67 := Lib.hid hb
  have x0 := cell_kept hb x0
  have x1 := cell_kept hb x1
  have x2 := cell_kept hb x2
  have u0 := cell_kept hb u0
  have u1 := cell_kept hb u1
  have u2 := cell_kept hb u2
  refine hK _ _ ⟨x0, x1, x2, u0, u1, u2⟩ ?_
  clear hK K hb HN6
  have HI7 := Lib.hid (HI6.out.below HB67.out)
  generalize rightB y = B at *
  repeat (first | (refine lexO_take ⟨x0, x1, x2, u0, u1, u2⟩ rfl (fun w' hw' => by (obtain ⟨v0, v1, v2, v3, v4, v5⟩ := hw'; (try go_simp); try rfl)) (fun K hK => ?_); go_simp; refine hK _ _ ?_; clear hK K) | (refine lexO_take_on _ _ _ _ ⟨x0, x1, x2, u0, u1, u2⟩ rfl rfl rfl rfl (fun w' hw' => by (obtain ⟨v0, v1, v2, v3, v4, v5⟩ := hw'; (try go_simp); try rfl)) (fun K hK => ?_); go_simp; refine hK _ _ ?_; clear hK K))
  refine lexO_step_on _ _ _ _ rfl rfl rfl rfl (fun K hK => ?_)
  go_wp2_with (go_at_call 15; refine (print_any _ _ _ y Any w7 (HE.out.below (below_next HBW.out HN7.out) HE.out.size) (HYI.out _ HN7.out).1 (HYI.out _ HN7.out).2.1 (HYI.out _ HN7.out).2.2 (by have := HL.out; omega)).mono ?_; rintro e w8 ⟨rfl, hb⟩)
  have HN8 := Lib.hid (below_next HN7.out hb)
  have HI8 := Lib.hid (HI7.out.below hb)
  have x0 := cell_kept hb x0
  have x1 := cell_kept hb x1
  have x2 := cell_kept hb x2
  have u0 := cell_kept hb u0
  have u1 := cell_kept hb u1
  have u2 := cell_kept hb u2
  refine hK _ _ ⟨x0, x1, x2, u0, u1, u2⟩ ?_
  clear hK K hb HN7
  repeat (first | (refine lexO_take ⟨x0, x1, x2, u0, u1, u2⟩ rfl (fun w' hw' => by (obtain ⟨v0, v1, v2, v3, v4, v5⟩ := hw'; (try go_simp); try rfl)) (fun K hK => ?_); go_simp; refine hK _ _ ?_; clear hK K) | (refine lexO_take_on _ _ _ _ ⟨x0, x1, x2, u0, u1, u2⟩ rfl rfl rfl rfl (fun w' hw' => by (obtain ⟨v0, v1, v2, v3, v4, v5⟩ := hw'; (try go_simp); try rfl)) (fun K hK => ?_); go_simp; refine hK _ _ ?_; clear hK K))
  refine lexO_step_on _ _ _ _ rfl rfl rfl rfl (fun K hK => ?_)
  go_wp2_with (go_at_call 16; refine (refprint_any _ _ _ y Any w8 (HYI.out _ HN8.out) (by have := HL.out; omega)).mono ?_; rintro e w9 ⟨rfl, hb⟩)
  have HN9 := Lib.hid (below_next HN8.out hb)
  have HI9 := Lib.hid (HI8.out.below hb)
  have x0 := cell_kept hb x0
  have x1 := cell_kept hb x1
  have x2 := cell_kept hb x2
  have u0 := cell_kept hb u0
  have u1 := cell_kept hb u1
  have u2 := cell_kept hb u2
  refine hK _ _ ⟨x0, x1, x2, u0, u1, u2⟩ ?_
  clear hK K hb HN8
  generalize (⟨(printP y).toArray⟩ : ByteArray) = pb at *
  repeat (first | (refine lexO_take ⟨x0, x1, x2, u0, u1, u2⟩ rfl (fun w' hw' => by (obtain ⟨v0, v1, v2, v3, v4, v5⟩ := hw'; (try go_simp); try rfl)) (fun K hK => ?_); go_simp; refine hK _ _ ?_; clear hK K) | (refine lexO_take_on _ _ _ _ ⟨x0, x1, x2, u0, u1, u2⟩ rfl rfl rfl rfl (fun w' hw' => by (obtain ⟨v0, v1, v2, v3, v4, v5⟩ := hw'; (try go_simp); try rfl)) (fun K hK => ?_); go_simp; refine hK _ _ ?_; clear hK K))
  refine lexO_step_on _ _ _ _ rfl rfl rfl rfl (fun K hK => ?_)
  go_wp2_with (go_at_call 17; refine (same_any _ _ _ _ _ _ _ _ Any _ (HYI.out _ HN9.out) HI9.out).mono ?_; rintro e w10 ⟨rfl, hb⟩)
  have HN10 := Lib.hid (below_next HN9.out hb)
  have x0 := cell_kept hb x0
  have x1 := cell_kept hb x1
  have x2 := cell_kept hb x2
  have u0 := cell_kept hb u0
  have u1 := cell_kept hb u1
  have u2 := cell_kept hb u2
  refine hK _ _ ⟨x0, x1, x2, u0, u1, u2⟩ ?_
  clear hK K hb HN9
  repeat (first | (refine lexO_take ⟨x0, x1, x2, u0, u1, u2⟩ rfl (fun w' hw' => by (obtain ⟨v0, v1, v2, v3, v4, v5⟩ := hw'; (try go_simp); try rfl)) (fun K hK => ?_); go_simp; refine hK _ _ ?_; clear hK K) | (refine lexO_take_on _ _ _ _ ⟨x0, x1, x2, u0, u1, u2⟩ rfl rfl rfl rfl (fun w' hw' => by (obtain ⟨v0, v1, v2, v3, v4, v5⟩ := hw'; (try go_simp); try rfl)) (fun K hK => ?_); go_simp; refine hK _ _ ?_; clear hK K))
  refine lexO_step rfl (fun K hK => ?_)
  go_wp2_with fail
  refine hK _ _ ⟨x0, x1, x2, u0, u1, u2⟩ ?_
  clear hK K
  refine lexO_nil ?_
  go_wp2
  go_ret
  exact ⟨ret_bool (by simp), below_next HBW.out HN10.out⟩
end Go.Proofs.YtoahaigfjfeopaaGreatDoor

/- THE CARD OF arboristlaw06.InstRights: its contract, its row, its card. -/
namespace Go.Proofs.YtoahaigfjfeopaaGreatDoor.instRights
open Go.ChangeShapes Go.WideShapes Go.ChangeAt Go.RowKit

set_option maxRecDepth 100000 in
theorem contract (H : Type) (enc : TypeId × Value → H) (W : World) (base : Nat) (args : Array Value) (ds gs : List (DataW H)) (before : List MemPlace)
    (hval : ∀ (j : Nat) t v, Tryz.f3.params[j]? = some t → args[j]? = some v → Value.okWide Tryz.prog W .any base t v)
    (hW : DataW.Whole enc Tryz.prog Tryz.f3.params.toList Rows.instRightsSpec.vars false W args.toList ds gs before)
    (hsz : (DataW.weightsEach Tryz.prog (Tryz.f3.params.toList ++ []) (ds ++ gs)).all (· ≤ reachBytes) = true) (hL : laidMetH Tryz.prog Rows.instRightsRow.laid W) :
    Calls Tryz.prog 3 args W fun e W' => ∃ v, e = .returned v ∧ Rows.instRightsSpec.post enc Tryz.prog Tryz.f3 false true false false W args v W' := by
  have hW' := hW
  obtain ⟨p, q, hA0, hV, rfl, hfz, hnd⟩ := hW
  have hA : DataW.TrodAll enc Tryz.prog W 0 (fun _ => true) true Tryz.f3.params.toList args.toList ds p := hA0
  rw [Tryz.params3] at hA hval hsz
  obtain ⟨v0, vs0, d0, ds0, p0, q0, hargs, rfl, rfl, h0, r0⟩ := trodAll_cons hA
  obtain ⟨rfl, rfl, rfl⟩ := trodAll_nil r0
  obtain rfl : args = #[v0] := by cases args; simp_all
  obtain ⟨rfl, rfl⟩ := trodVars_none hV
  simp only [List.append_nil] at hW' hsz
  obtain ⟨u0, u1, u2, x, rfl, hx⟩ := open_inst (hval 0 26 v0 rfl rfl) h0 hsz
  refine (rights_law u0 u1 u2 x _ W (env_of_laid hL) hx).mono fun e W' ⟨he, hg⟩ => ?_
  subst he
  exact ⟨_, rfl, post_true1 Tryz.params3 (by kernel_rfl) rfl rfl (by kernel_rfl) (of_decide_eq_true (by kernel_rfl)) h0 hW' hg⟩

theorem reads (os : Os) {H : Type} (enc : TypeId × Value → H) : ∃ places, DataW.whole enc Tryz.prog ((World.doorLaid Tryz.prog 200 os).forCall (fun _ _ => 0) ⟨#[], #[.agg #[.slice none 0 0, .slice none 0 0, .slice none 0 0]], []⟩).memory Tryz.f3.params.toList Rows.instRightsSpec.vars false #[Value.agg #[.slice none 0 0, .slice none 0 0, .slice none 0 0]].toList 8 = some ([.agg [.nil, .nil, .nil]], [], places) :=
  ⟨[], by kernel_rfl⟩

set_option maxRecDepth 100000 in
theorem lifted (os : Os) (started : os.Started) (H : Type) (enc : TypeId × Value → H) (F : Stop.Interp) :
    ReturnsInHanded {} Tryz.checked os 3 .any ((OpenSpec.ofChange Rows.instRightsSpec).preRow enc Tryz.prog Tryz.f3 Rows.instRightsRow.domain false Rows.instRightsRow.laid) (((OpenSpec.ofChange Rows.instRightsSpec).at F).post enc Tryz.prog Tryz.f3 false true false false) := by
  obtain ⟨places, hx⟩ := reads os enc
  refine returnsInHanded_of_row (C := Tryz.checked) (s := OpenSpec.ofChange Rows.instRightsSpec) own_knob started (by kernel_rfl) Tryz.func3
    (witness_row_atRef (enc := enc) (C := Tryz.checked) false (World.doorLaid Tryz.prog 200 os) #[.agg #[.slice none 0 0, .slice none 0 0, .slice none 0 0]] rfl (by kernel_rfl) (by kernel_rfl) (by kernel_rfl)
      (OpenSpec.preRow_of_cond 8 hx (by kernel_rfl) (fun k hk => by cases hk) (by kernel_rfl) (laid_met os _))) ?_
  intro W base args ds gs before hval hW _ _ hsz hL _ _
  exact contract H enc W base args ds gs before hval hW hsz hL

theorem said : Rows.InstRightsSaid :=
  OpenClaim.holds_of_cond 3 Tryz.f3 rfl rfl rfl rfl rfl rfl rfl ⟨rfl, rfl, rfl, rfl, rfl⟩ rfl rfl rfl rfl rfl (by kernel_rfl) Tryz.func3 (by kernel_rfl)
    (of_decide_eq_true (by kernel_rfl)) (by unfold Func.isWrapper; first | (rw [if_pos (by decide +kernel)]; kernel_rfl) | (rw [if_neg (by decide +kernel)]; exact ⟨rfl, rfl⟩))
    (fun os started H enc _ F => by rw [OpenClaim.pre_eq_preRow]; exact lifted os started H enc F)

theorem plain (f : FuncId) (fn : Func) (hf : Tryz.pinned.checked.prog.funcNamed "arborist/arboristlaw06.InstRights" = some f) (hfn : Tryz.pinned.checked.prog.funcs[f]? = some fn) :
    true = Tryz.pinned.checked.prog.looks [] ∧ ∀ (j : Nat) t, fn.params[j]? = some t → Tryz.pinned.checked.prog.wantsStandIn t = false := by
  obtain rfl : f = 3 := Option.some.inj ((show Tryz.prog.funcNamed "arborist/arboristlaw06.InstRights" = some 3 by kernel_rfl).symm.trans hf) |>.symm
  obtain rfl : fn = Tryz.f3 := (Option.some.inj (Tryz.func3.symm.trans hfn)).symm
  refine ⟨by kernel_rfl, fun j t ht => ?_⟩
  rw [Tryz.params3] at ht
  obtain rfl : t = 26 := by simpa using Array.mem_of_getElem? ht
  exact (show Tryz.prog.wantsStandIn 26 = false by kernel_rfl)

theorem card : Rows.InstRightsCardSaid :=
  Claim7.holds_tied_plain_at .later [] _ _ _ _ said (fun _ h => by cases h) (by kernel_rfl) (fun _ h => by cases h) instRights_row_tie rfl ⟨rfl, rfl⟩ (by kernel_rfl) rfl plain (by kernel_rfl)
end Go.Proofs.YtoahaigfjfeopaaGreatDoor.instRights
