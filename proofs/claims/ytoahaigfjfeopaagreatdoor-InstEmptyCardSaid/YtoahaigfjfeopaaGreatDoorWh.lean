/- What the printer's methods write. -/
import Derived.Test.YtoahaigfjfeopaaGreatDoorWg
import Derived.Test.YtoahaigfjfeopaaGreatDoorPc
import Derived.Test.YtoahaigfjfeopaaGreatDoorShelf
import Derived.Deep.RegionWith
import Derived.Deep.DeepFit
import Derived.BigRegion
import Derived.Lib.ItoaLen
import Derived.Laws.Concat
namespace Go.Proofs.YtoahaigfjfeopaaGreatDoor
open Go.RowKit

/-- What the package's variables hold. -/
structure Env (w : World) : Prop where
  words : ∃ t fr, w.heap[0]? = some (.cells (wordsT.map fun l => Value.string ⟨l.toArray⟩).toArray t fr)
  hows : ∃ t fr, w.heap[1]? = some (.cells (howsT.map fun l => Value.string ⟨l.toArray⟩).toArray t fr)
  pow : Lib.TabIs Tryz.prog w "internal/strconv.uint64pow10" .u64 Lib.pow10Tab
  syn : ∃ tp p, w.var? Tryz.prog "strconv.ErrSyntax" = some #[.iface tp p]
  rng : ∃ tp p, w.var? Tryz.prog "strconv.ErrRange" = some #[.iface tp p]
  size : 8 ≤ w.heap.size
theorem var_below {P : Program} {w w' : World} {B : Nat} {name : String} {g : Nat} (hg : P.globalNamed name = some g) (hB : g < B) (hb : Below B w w') : w'.var? P name = w.var? P name := by
  simp only [World.var?, hg, Option.bind_some]
  rw [hb.block g hB]
theorem Env.below {w w' : World} {B : Nat} (h : Env w) (hb : Below B w w') (hB : 8 ≤ B) : Env w' where
  words := by obtain ⟨t, fr, h1⟩ := h.words; exact ⟨t, fr, (hb.block _ (by omega)).trans h1⟩
  hows := by obtain ⟨t, fr, h1⟩ := h.hows; exact ⟨t, fr, (hb.block _ (by omega)).trans h1⟩
  pow := (var_below (g := 2) (by kernel_rfl) (by omega) hb).trans h.pow
  syn := by obtain ⟨tp, p, h1⟩ := h.syn; exact ⟨tp, p, (var_below (g := 4) (by kernel_rfl) (by omega) hb).trans h1⟩
  rng := by obtain ⟨tp, p, h1⟩ := h.rng; exact ⟨tp, p, (var_below (g := 5) (by kernel_rfl) (by omega) hb).trans h1⟩
  size := Nat.le_trans h.size hb.size
theorem Env.word {w : World} (h : Env w) (k : Nat) (hk : k < 7) : w.cell? ⟨0, k, none⟩ = some (.string ⟨(nth [] wordsT k).toArray⟩) := by
  obtain ⟨t, fr, h1⟩ := h.words
  refine cell_at h1 ?_
  match k, hk with
  | 0, _ | 1, _ | 2, _ | 3, _ | 4, _ | 5, _ | 6, _ => rfl
theorem Env.how {w : World} (h : Env w) (k : Nat) (hk : k < 3) : w.cell? ⟨1, k, none⟩ = some (.string ⟨(nth [] howsT k).toArray⟩) := by
  obtain ⟨t, fr, h1⟩ := h.hows
  refine cell_at h1 ?_
  match k, hk with
  | 0, _ | 1, _ | 2, _ => rfl

theorem Kep.sl {α : Type} {d : Kd α} {w w1 : World} {ok : Nat → Prop} {v : Value} {xs : List α} {b : Nat} (hs : 0 < d.sz) (h : Sl d w ok v xs) (hk : Kep b w w1) (hok : ∀ k, ok k → k < b) : Sl d w1 ok v xs :=
  (h.move hs fun k ho _ => hk.below.block k (hok k ho)).mono fun _ h => h.1
theorem grow_below (w : World) (k : Nat) (os : Array Obj) : Below w.heap.size w (Go.Sort.grow (w.drewN k) os) :=
  ⟨rfl, rfl, rfl, by simp [Go.Sort.grow], fun i hi => by show (w.heap ++ os)[i]? = w.heap[i]?; rw [Array.getElem?_append, if_pos hi]⟩
theorem itoa_any (n : Int) (w : World) (h : Fit n) (he : Env w) :
    Calls Tryz.prog 63 #[.int .i64 n] w fun e w' => e = .returned (.string ⟨(Lib.itoa n).toArray⟩) ∧ Below w.heap.size w w' := by
  refine (Tryz.strconv_Itoa n (by have := h.1; omega) (by have := h.2; omega) w he.pow).mono ?_
  rintro e w' ⟨rfl, k, os, rfl⟩
  exact ⟨rfl, grow_below w k os⟩
theorem Bld.move {b : Nat} {l : List UInt8} {w w1 : World} (h : Bld b l w) (hb : Below w.heap.size w w1) : Bld b l w1 := by
  obtain ⟨p, v, hp, hbk, hown, hne, h0⟩ := h
  refine ⟨p, v, hp, block_kept hb hbk, hown.kept (row := none) ⟨hb.os, hb.tape, hb.output, hb.size, fun k hk _ => hb.block k hk⟩ ?_, hne, h0⟩
  cases v.ownBlock <;> simp

theorem kep_of_below {b : Nat} {w w1 : World} (hb : Below w.drew.heap.size w.drew w1) (hw : b ≤ w.heap.size) : Kep b w w1 :=
  ⟨(Below.drew (Below.refl b w)).trans (hb.mono hw), fun k o hk _ _ => (hb.block k (Array.getElem?_eq_some_iff.1 hk).1).trans hk⟩
set_option maxRecDepth 100000 in
set_option maxHeartbeats 1000000 in
theorem numbers_any (b : Nat) (l : List UInt8) (v : Value) (xs : List Int) (ok : Nat → Prop) (w : World) (hB : Bld b l w) (hE : Env w) (hb8 : 8 ≤ b) (h1 : Sl (Kd.int .i64) w ok v xs) (hok : ∀ k, ok k → k < b ∨ ∃ c t fr, w.heap[k]? = some (.cells c t fr) ∧ t ≠ 5 ∧ k ≠ b) (hf : Fits xs) (hlen : l.length + (numsP xs).length ≤ 140737488355328) :
    Calls Tryz.prog 36 #[.pointer (some ⟨b, 0, none⟩), v] w fun e w' => e = .returned (.tuple #[]) ∧ Bld b (l ++ numsP xs) w' ∧ Kep b w w' := by
  have H1 := h1
  obtain ⟨A, c, rfl, hc, hm, hA⟩ := h1
  clear hA
  have hfx := Lib.hid hf
  clear hf
  have keep : ∀ W, Kep b w W → Sl (Kd.int .i64) W ok (.slice A xs.length c) xs := by
    intro W hk
    refine (H1.move (by decide) fun k ho hlt => ?_).mono fun _ h => h.1
    rcases hok k ho with h | ⟨c, t, fr, h, ht, hkb⟩
    · exact hk.below.block k h
    · exact (hk.others k _ h (by simpa using hkb) (fun c' fz e => ht (by injection e))).trans h.symm
  have HK := Lib.hid keep
  clear keep H1 hok
  have HE := Lib.hid hE
  have HB := Lib.hid hB
  clear hE hB
  go_enter Tryz.func36, Tryz.ntmps36
  go_wp2
  go_loopw [8] (fun i wr => ∃ k : Nat, i = .int .i64 k ∧ k ≤ xs.length ∧ Hid (Bld b (l ++ numsP (xs.take k)) wr) ∧ Hid (Kep b w wr)) (fun i _ => xs.length - (intOf i).toNat)
  case atStart => exact ⟨0, rfl, by omega, Lib.hid (by simpa [numsP] using HB.out), Lib.hid (Kep.refl _ _)⟩
  case round =>
    obtain ⟨k, rfl, hk, HB', HK'⟩ := hrel
    by_cases hlt : k < xs.length
    · obtain ⟨b1, o1, rfl, c1⟩ := (Sl.elems (HK.out _ HK'.out)).num hlt
      have hfk := hfx.out k hlt
      have hstep := numsP_snoc xs k hlt
      have hle := numsP_take_le xs (k + 1)
      have hit := Lib.hid (itoa_any (nth 0 xs k) wr.drew hfk (HE.out.below HK'.out.below.drew hb8))
      have hbl : l.length + (numsP (xs.take k)).length + (32 :: Lib.itoa (nth 0 xs k)).length ≤ 140737488355328 := by
        rw [hstep, List.length_append] at hle; omega
      have HS := Lib.hid hstep
      have HL := Lib.hid hbl
      have hil := Lib.itoa_length_le (nth 0 xs k) (by have := hfk.1; omega) (by have := hfk.2; omega)
      clear hstep hbl hle hfk
      have hdt : Hid ((ByteArray.mk #[32] ++ ByteArray.mk (Lib.itoa (nth 0 xs k)).toArray).data.toList = 32 :: Lib.itoa (nth 0 xs k)) := Lib.hid (by simp)
      have hsz : Hid ((l ++ numsP (xs.take k)).length + (ByteArray.mk #[32] ++ ByteArray.mk (Lib.itoa (nth 0 xs k)).toArray).size ≤ 140737488355328) := Lib.hid (by
        have := HL.out; rw [List.length_cons] at this; simp [ByteArray.size_append, ByteArray.size]; omega)
      have hbw : Hid (b ≤ wr.heap.size) := Lib.hid (by obtain ⟨_, _, _, h, _⟩ := HB'.out; have := lt_of_block h; omega)
      have HBd := Lib.hid (HB'.out.move (Below.drew (Below.refl wr.heap.size wr)))
      go_wp2
      go_region_with (first
        | (go_at_call 63; refine hit.out.mono ?_; rintro e w' ⟨rfl, hb⟩; have hb' := Lib.hid hb; clear hb)
        | (go_at_call 35; refine (writeString_any b _ _ _ (HBd.out.move hb'.out) hsz.out).mono ?_; rintro e w2 ⟨rfl, hB2, hk2⟩; rw [hdt.out] at hB2; have HB2 := Lib.hid hB2; have HK2 := Lib.hid hk2; clear hB2 hk2))
      go_wp2
      go_roundw
      case rel => exact ⟨k + 1, by go_num, by omega, Lib.hid (by rw [HS.out, ← List.append_assoc]; exact HB2.out), Lib.hid (HK'.out.trans ((kep_of_below hb'.out hbw.out).trans HK2.out))⟩
      case measure => simp [intOf]; omega
    · go_wp2
      go_end0
      have e : xs.take k = xs := List.take_of_length_le (by omega)
      rw [e] at HB'
      exact ⟨rfl, HB'.out, HK'.out⟩
end Go.Proofs.YtoahaigfjfeopaaGreatDoor
