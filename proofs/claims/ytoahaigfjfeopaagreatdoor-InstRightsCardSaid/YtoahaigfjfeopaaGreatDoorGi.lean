/- Texts joined: Wan Pi Wap Rm. -/
import Derived.Test.YtoahaigfjfeopaaGreatDoorGg
import Derived.Test.YtoahaigfjfeopaaGreatDoorGh
import Derived.Lib.ItoaLen
import Derived.Laws.IdiomStrings
/- arboristref06.Number. -/
namespace Go.Proofs.YtoahaigfjfeopaaGreatDoor
open Go.RowKit
attribute [local irreducible] wpStill wpLex Calls

theorem dec_big {u : Nat} (h : ¬ u < 10) : Lib.decDigits u = Lib.decDigits (u / 10) ++ [UInt8.ofNat (48 + u % 10)] := by rw [Lib.decDigits, dif_neg h]
theorem digit_text (u : Nat) (w : World) : (convert 39 9 (.slice (some ⟨w.heap.size, 0, none⟩) 1 1)).run Tryz.prog (w.alloc (.cells #[.int .u8 (48 + (u : Int) % 10)] 5)) = .ok (.string ⟨#[UInt8.ofNat (48 + u % 10)]⟩) (w.alloc (.cells #[.int .u8 (48 + (u : Int) % 10)] 5)) := by
  refine run_convert_bytes_back _ 39 9 5 ⟨w.heap.size, 0, none⟩ 1 [UInt8.ofNat (48 + u % 10)] Tryz.underlying39 Tryz.underlying5 Tryz.underlying9 (fun j hj => ?_)
  have hj0 : j = 0 := by simp at hj; exact hj
  subst hj0
  have hc := cell_at (heap_alloc_new w (.cells #[.int .u8 (48 + (u : Int) % 10)] 5)) (i := 0) rfl
  have e : ((UInt8.ofNat (48 + u % 10)).toNat : Int) = 48 + (u : Int) % 10 := by
    rw [UInt8.toNat_ofNat']
    omega
  simp only [List.getElem_cons_zero, e]
  exact hc
set_option maxRecDepth 100000 in
theorem refnum_nat : ∀ (u : Nat) (w : World), u ≤ 9223372036854775807 →
    Calls Tryz.prog 20 #[.int .i64 u] w fun e w' => e = .returned (.string ⟨(Lib.decDigits u).toArray⟩) ∧ Below w.heap.size w w' := by
  intro u
  induction u using Nat.strongRecOn with
  | ind u ih =>
  intro w hu
  have hcv := digit_text u w
  obtain ⟨ch, hch⟩ : ∃ ch, ch = UInt8.ofNat (48 + u % 10) := ⟨_, rfl⟩
  rw [← hch] at hcv
  have HCH := Lib.hid hch
  clear hch
  have hb0 := Lib.hid (below_alloc1 w (.cells #[.int .u8 (48 + (u : Int) % 10)] 5))
  have hsz := Lib.hid (Nat.le_refl w.heap.size)
  by_cases h : u < 10
  · have hd := Lib.hid (Lib.decDigits_one h)
    have hm := Lib.hid (Nat.mod_eq_of_lt h)
    clear ih
    go_enter Tryz.func20, Tryz.ntmps20
    go_wp2
    go_ret
    exact ⟨ret_str (by rw [hd.out, HCH.out, hm.out]), hb0.out⟩
  · have hc := Lib.hid (ih (u / 10) (by omega) (w.alloc (.cells #[.int .u8 (48 + (u : Int) % 10)] 5)) (by omega))
    have hd := Lib.hid (dec_big h)
    have hl := Lib.hid (show (Lib.decDigits (u / 10)).length ≤ 20 by rw [Lib.decDigits_length]; exact Lib.nDigits_le20 _ (by omega))
    have hlen : (ByteArray.mk (Lib.decDigits (u / 10)).toArray).size ≤ 20 := by rw [size_mk]; exact hl.out
    have HA := Lib.hid (ba_app (Lib.decDigits (u / 10)) [ch])
    clear ih
    have e10 : ((u / 10 : Nat) : Int) = (u : Int) / 10 := by omega
    rw [e10] at hc
    clear e10
    go_enter Tryz.func20, Tryz.ntmps20
    generalize (ByteArray.mk (Lib.decDigits (u / 10)).toArray) = sb at *
    go_wp2_with (go_at_call 20; refine hc.out.mono ?_; rintro e w' ⟨rfl, hb⟩; (have hb1 := Lib.hid (below_next hb0.out hb)); clear hb)
    go_ret
    exact ⟨ret_str (by rw [hd.out, ← HCH.out]; exact HA.out), hb1.out⟩
theorem refnum_any (n : Int) (w : World) (h0 : -9223372036854775808 < n) (h1 : n ≤ 9223372036854775807) :
    Calls Tryz.prog 20 #[.int .i64 n] w fun e w' => e = .returned (.string ⟨(Lib.itoa n).toArray⟩) ∧ Below w.heap.size w w' := by
  by_cases h : n < 0
  · have hc := refnum_nat n.natAbs w (by omega)
    have hl : (Lib.decDigits n.natAbs).length ≤ 20 := by rw [Lib.decDigits_length]; exact Lib.nDigits_le20 _ (by omega)
    have hlen : (ByteArray.mk (Lib.decDigits n.natAbs).toArray).size ≤ 20 := by rw [size_mk]; exact hl
    have HA := Lib.hid (ba_app [45] (Lib.decDigits n.natAbs))
    have HI : Hid (Lib.itoa n = 45 :: Lib.decDigits n.natAbs) := Lib.hid (by unfold Lib.itoa; rw [if_pos h])
    have e10 : ((n.natAbs : Nat) : Int) = -n := by omega
    rw [e10] at hc
    have hc' := Lib.hid hc
    clear e10 hc hl
    go_enter Tryz.func20, Tryz.ntmps20
    generalize (ByteArray.mk (Lib.decDigits n.natAbs).toArray) = sb at *
    go_wp2_with (go_at_call 20; refine hc'.out.mono ?_; rintro e w' ⟨rfl, hb⟩; (have hb1 := Lib.hid hb); clear hb)
    go_ret
    exact ⟨ret_str (by rw [HI.out]; exact HA.out), hb1.out⟩
  · have hc := refnum_nat n.toNat w (by omega)
    rw [show ((n.toNat : Nat) : Int) = n by omega] at hc
    have HI : Lib.itoa n = Lib.decDigits n.toNat := by unfold Lib.itoa; rw [if_neg h]
    rw [HI]
    exact hc
end Go.Proofs.YtoahaigfjfeopaaGreatDoor

/- As many variables, values and variables of a scope as may be: all texts tried by the kernel. -/
namespace Go.Proofs.YtoahaigfjfeopaaGreatDoor

/-- A number below a thousand, by its digits. -/
def num3 (n : Nat) : List UInt8 := if n < 10 then [UInt8.ofNat (48 + n)] else if n < 100 then [UInt8.ofNat (48 + n / 10), UInt8.ofNat (48 + n % 10)] else [UInt8.ofNat (48 + n / 100), UInt8.ofNat (48 + n / 10 % 10), UInt8.ofNat (48 + n % 10)]
theorem num3_itoa (n : Nat) (h : n < 1000) : Lib.itoa (n : Int) = num3 n := by
  have hi : Lib.itoa (n : Int) = Lib.decDigits n := by
    unfold Lib.itoa
    rw [if_neg (by omega)]
    rfl
  rw [hi]
  unfold num3
  split
  · rename_i h1; exact Lib.decDigits_one h1
  · rename_i h1
    split
    · rename_i h2; exact Lib.decDigits_two h1 h2
    · rename_i h2
      rw [Lib.decDigits, dif_neg h1, Lib.decDigits_two (by omega) (by omega), show n / 10 / 10 = n / 100 by omega]
      rfl
def vars1 : Nat → List UInt8
  | 0 => []
  | n + 1 => vars1 n ++ [118, 97, 114, 32, 49, 59]
def vals1 : Nat → List UInt8
  | 0 => [118, 97, 114]
  | n + 1 => vals1 n ++ ([32] ++ num3 (100 + n))
def scope1 : Nat → List UInt8
  | 0 => [100, 105, 102, 102]
  | n + 1 => scope1 n ++ ([32] ++ num3 n)
/-- What Parse tells of a text: where, and what. -/
def codeP (r : Except (Int × Int) Ins) : Int × Int := match r with | .ok _ => (0, 0) | .error e => e
def many1 (n : Nat) : Bool := codeP (parseP (vars1 n)) == (if n ≤ 40 then (0, 0) else (240, 7))
def many2 (n : Nat) : Bool := codeP (parseP (vals1 n ++ [59])) == (if n ≤ 16 then (0, 0) else (68, 7))
def many3 (n : Nat) : Bool := codeP (parseP (vars1 (min n 40) ++ scope1 n ++ [59])) == (if n ≤ 6 then (0, 0) else (((6 * min n 40 + 17 : Nat) : Int), 7))
def manyAll (n : Nat) : Bool := n == 0 || many1 n && many2 n && many3 n
theorem many_tried : (List.range 51).all manyAll = true := by kernel_rfl
theorem many_ok (n : Nat) (h0 : 1 ≤ n) (h : n ≤ 50) : codeP (parseP (vars1 n)) = (if n ≤ 40 then (0, 0) else (240, 7)) ∧ codeP (parseP (vals1 n ++ [59])) = (if n ≤ 16 then (0, 0) else (68, 7)) ∧ codeP (parseP (vars1 (min n 40) ++ scope1 n ++ [59])) = (if n ≤ 6 then (0, 0) else (((6 * min n 40 + 17 : Nat) : Int), 7)) := by
  have h1 := List.all_eq_true.1 many_tried n (List.mem_range.2 (by omega))
  unfold manyAll at h1
  rw [show (n == 0) = false by simp; omega, Bool.false_or] at h1
  simp only [Bool.and_eq_true] at h1
  exact ⟨eq_of_beq h1.1.1, eq_of_beq h1.1.2, eq_of_beq h1.2⟩
theorem vars1_len : ∀ n, (vars1 n).length = 6 * n
  | 0 => rfl
  | n + 1 => by rw [vars1, List.length_append, vars1_len n]; simp; omega
theorem num3_len (n : Nat) : (num3 n).length ≤ 3 := by
  unfold num3
  split
  · simp
  · split <;> simp
theorem vals1_len : ∀ n, (vals1 n).length ≤ 3 + 4 * n
  | 0 => Nat.le_refl _
  | n + 1 => by have := num3_len (100 + n); rw [vals1, List.length_append, List.length_append]; have := vals1_len n; simp; omega
theorem scope1_len : ∀ n, (scope1 n).length ≤ 4 + 4 * n
  | 0 => Nat.le_refl _
  | n + 1 => by have := num3_len n; rw [scope1, List.length_append, List.length_append]; have := scope1_len n; simp; omega
end Go.Proofs.YtoahaigfjfeopaaGreatDoor

/- arboristlaw06.InstMany. -/
namespace Go.Proofs.YtoahaigfjfeopaaGreatDoor
open Go.RowKit
attribute [local irreducible] wpStill wpLex Calls

theorem code_ok {r : Except (Int × Int) Ins} {a x : Int} (h : codeP r = (a, x)) : (∃ y, r = .ok y ∧ a = 0 ∧ x = 0) ∨ r = .error (a, x) := by
  cases r with
  | ok y => injection h with h1 h2; exact .inl ⟨y, rfl, h1.symm, h2.symm⟩
  | error e => exact .inr (by rw [show e = (a, x) from h])
/-- Parse, where the instance itself is of no matter. -/
theorem reads_code (l : List UInt8) (a x : Int) (w : World) (hE : Env w) (hl : l.length ≤ 140737488355328) (h : codeP (parseP l) = (a, x)) :
    Calls Tryz.prog 18 #[.string ⟨l.toArray⟩] w fun e w' => (∃ DA Dn Dc HA Hn Hc SA Sn Sc, e = .returned (.tuple #[.agg #[.slice DA Dn Dc, .slice HA Hn Hc, .slice SA Sn Sc], .int .i64 a, .int .i64 x])) ∧ Below w.heap.size w w' := by
  rcases code_ok h with ⟨y, hy, rfl, rfl⟩ | hq
  · refine (reads_ok l y w hE hl hy).mono ?_
    rintro e w' ⟨⟨DA, Dc, HA, Hc, SA, Sc, rfl, _⟩, hb⟩
    exact ⟨⟨_, _, _, _, _, _, _, _, _, rfl⟩, hb⟩
  · refine (reads_err l a x w hE hl hq).mono ?_
    rintro e w' ⟨rfl, hb⟩
    exact ⟨⟨_, _, _, _, _, _, _, _, _, rfl⟩, hb⟩
theorem low16 (n : Int) : 0 ≤ bits BinOp.and IntKind.i64 n 65535 ∧ bits BinOp.and IntKind.i64 n 65535 ≤ 65535 := by
  have h : (BitVec.ofInt 64 n &&& BitVec.ofInt 64 65535).toNat ≤ 65535 := by
    rw [BitVec.toNat_and]
    exact Nat.and_le_right
  have e : bits BinOp.and IntKind.i64 n 65535 = IntKind.i64.wrap (((BitVec.ofInt 64 n &&& BitVec.ofInt 64 65535).toNat : Nat) : Int) := rfl
  rw [e, IntWalk.i64_in _ (by omega)]
  omega
def ManyRel (m : Nat) (w1 : World) (g : Nat) (a b c i : Value) (wr : World) : Prop :=
  ∃ k : Nat, ∃ sa sb sc : ByteArray, i = .int .i64 k ∧ k ≤ m ∧ a = .string sa ∧ b = .string sb ∧ c = .string sc ∧ Hid (sa = ⟨(vars1 k).toArray⟩) ∧ Hid (sb = ⟨(vals1 k).toArray⟩) ∧ Hid (sc = ⟨(scope1 k).toArray⟩) ∧ sa.size ≤ 6 * k ∧ sb.size ≤ 3 + 4 * k ∧ sc.size ≤ 4 + 4 * k ∧ Below w1.heap.size w1 wr ∧ g = m - k
def VarsRel (q : Nat) (w : World) (g : Nat) (a i : Value) (wr : World) : Prop :=
  ∃ j : Nat, ∃ sa : ByteArray, i = .int .i64 j ∧ j ≤ q ∧ a = .string sa ∧ Hid (sa = ⟨(vars1 j).toArray⟩) ∧ sa.size = 6 * j ∧ wr = w ∧ g = q - j
set_option maxRecDepth 100000 in
set_option maxHeartbeats 4000000 in
theorem many_any (n : Int) (w : World) (hE : Env w) :
    Calls Tryz.prog 9 #[.int .i64 n] w fun e w' => e = .returned (.bool true) ∧ Below w.heap.size w w' := by
  have HS := Lib.hid (shown_any w hE)
  have HE := Lib.hid hE
  clear hE
  go_enter Tryz.func9, Tryz.ntmps9
  go_wp2_with (go_at_call 11; refine HS.out.mono ?_; rintro e w1 ⟨rfl, hb⟩; (have HB1 := Lib.hid hb); (have HE2 := Lib.hid (HE.out.below hb HE.out.size)); clear hb HS)
  have hlow := low16 n
  generalize bits BinOp.and IntKind.i64 n 65535 = B at *
  obtain ⟨hl0, hl1⟩ := hlow
  obtain ⟨m, hm, hm1, hm2⟩ : ∃ m : Nat, wrap64 (1 + B.tmod 50) = m ∧ 1 ≤ m ∧ m ≤ 50 := by
    have ht1 := Int.tmod_nonneg 50 hl0
    have ht2 := Int.tmod_lt_of_pos B (show (0 : Int) < 50 by decide)
    refine ⟨(1 + B.tmod 50).toNat, ?_, by omega, by omega⟩
    rw [show wrap64 (1 + B.tmod 50) = 1 + B.tmod 50 by unfold wrap64; omega]
    omega
  generalize wrap64 (1 + B.tmod 50) = M at *
  generalize B.tmod 50 = B5 at *
  subst hm
  clear hl0 hl1
  go_loopg [4, 5, 6, 7] m (fun g a b c i wr => ManyRel m w1 g a b c i wr)
  case atStart => exact ⟨0, _, _, _, rfl, by omega, rfl, rfl, rfl, Lib.hid rfl, Lib.hid rfl, Lib.hid rfl, Nat.le_refl _, Nat.le_refl _, Nat.le_refl _, Below.refl _ _, rfl⟩
  case round =>
    obtain ⟨k, sa, sb, sc, rfl, hk, rfl, rfl, rfl, ha, hb, hc, la, lb, lc, hbw, hg⟩ := hrel
    have HG := Lib.hid hg
    have HBW := Lib.hid hbw
    clear hg hbw
    by_cases hlt : k < m
    · have hn1 := Lib.hid (fun W => refnum_any (100 + (k : Int)) W (by omega) (by omega))
      have hn2 := Lib.hid (fun W => refnum_any (k : Int) W (by omega) (by omega))
      have HI1 : Hid (Lib.itoa (100 + (k : Int)) = num3 (100 + k)) := Lib.hid (by rw [← num3_itoa (100 + k) (by omega)]; congr 1)
      have HI2 : Hid (Lib.itoa (k : Int) = num3 k) := Lib.hid (num3_itoa k (by omega))
      rw [HI1.out] at hn1
      rw [HI2.out] at hn2
      have HA : Hid (sa ++ ⟨#[118, 97, 114, 32, 49, 59]⟩ = ⟨(vars1 (k + 1)).toArray⟩) := Lib.hid (by rw [ha.out]; exact ba_app _ _)
      have HBB : Hid (sb ++ ⟨#[32]⟩ ++ ⟨(num3 (100 + k)).toArray⟩ = ⟨(vals1 (k + 1)).toArray⟩) := Lib.hid (by rw [hb.out, show (⟨#[32]⟩ : ByteArray) = ⟨[32].toArray⟩ from rfl, ba_app, ba_app, vals1, List.append_assoc])
      have HCC : Hid (sc ++ ⟨#[32]⟩ ++ ⟨(num3 k).toArray⟩ = ⟨(scope1 (k + 1)).toArray⟩) := Lib.hid (by rw [hc.out, show (⟨#[32]⟩ : ByteArray) = ⟨[32].toArray⟩ from rfl, ba_app, ba_app, scope1, List.append_assoc])
      have l1 : (ByteArray.mk (num3 (100 + k)).toArray).size ≤ 3 := by rw [size_mk]; exact num3_len _
      have l2 : (ByteArray.mk (num3 k).toArray).size ≤ 3 := by rw [size_mk]; exact num3_len _
      generalize (ByteArray.mk (num3 (100 + k)).toArray) = d1 at *
      generalize (ByteArray.mk (num3 k).toArray) = d2 at *
      clear ha hb hc HI1 HI2
      go_wp2_with (first
        | (go_at_call 20; refine (hn1.out _).mono ?_; rintro e w2 ⟨rfl, hb⟩; (have HBW2 := Lib.hid (below_next HBW.out hb)); clear hb HBW hn1)
        | (go_at_call 20; refine (hn2.out _).mono ?_; rintro e w3 ⟨rfl, hb⟩; (have HBW3 := Lib.hid (below_next HBW2.out hb)); clear hb HBW2 hn2))
      go_roundg (m - (k + 1))
      case rel => exact ⟨k + 1, _, _, _, by go_num, by omega, rfl, rfl, rfl, HA, HBB, HCC, by have : (ByteArray.mk #[118, 97, 114, 32, 49, 59]).size = 6 := rfl; rw [ByteArray.size_append]; omega, by have : (ByteArray.mk #[32]).size = 1 := rfl; rw [ByteArray.size_append, ByteArray.size_append]; omega, by have : (ByteArray.mk #[32]).size = 1 := rfl; rw [ByteArray.size_append, ByteArray.size_append]; omega, HBW3.out, rfl⟩
      case measure => have := HG.out; omega
    · obtain rfl : k = m := by omega
      obtain ⟨q1, q2, q3⟩ := many_ok k hm1 hm2
      obtain ⟨a1, x1, e1, f1⟩ : ∃ a1 x1, (a1, x1) = (if k ≤ 40 then ((0 : Int), (0 : Int)) else (240, 7)) ∧ ((k ≤ 40 ∧ a1 = 0 ∧ x1 = 0) ∨ (40 < k ∧ a1 = 240 ∧ x1 = 7)) := by
        by_cases h : k ≤ 40
        · exact ⟨0, 0, by rw [if_pos h], .inl ⟨h, rfl, rfl⟩⟩
        · exact ⟨240, 7, by rw [if_neg h], .inr ⟨by omega, rfl, rfl⟩⟩
      obtain ⟨a2, x2, e2, f2⟩ : ∃ a1 x1, (a1, x1) = (if k ≤ 16 then ((0 : Int), (0 : Int)) else (68, 7)) ∧ ((k ≤ 16 ∧ a1 = 0 ∧ x1 = 0) ∨ (16 < k ∧ a1 = 68 ∧ x1 = 7)) := by
        by_cases h : k ≤ 16
        · exact ⟨0, 0, by rw [if_pos h], .inl ⟨h, rfl, rfl⟩⟩
        · exact ⟨68, 7, by rw [if_neg h], .inr ⟨by omega, rfl, rfl⟩⟩
      obtain ⟨a3, x3, e3, f3⟩ : ∃ a1 x1, (a1, x1) = (if k ≤ 6 then ((0 : Int), (0 : Int)) else (((6 * min k 40 + 17 : Nat) : Int), 7)) ∧ ((k ≤ 6 ∧ a1 = 0 ∧ x1 = 0) ∨ (6 < k ∧ a1 = ((6 * min k 40 + 17 : Nat) : Int) ∧ x1 = 7)) := by
        by_cases h : k ≤ 6
        · exact ⟨0, 0, by rw [if_pos h], .inl ⟨h, rfl, rfl⟩⟩
        · exact ⟨_, 7, by rw [if_neg h], .inr ⟨by omega, rfl, rfl⟩⟩
      rw [← e1] at q1
      rw [← e2] at q2
      rw [← e3] at q3
      have F1 := Lib.hid f1
      have F2 := Lib.hid f2
      have F3 := Lib.hid f3
      have Q2 := Lib.hid q2
      have Q3 := Lib.hid q3
      have HBW1 := Lib.hid (below_next HB1.out HBW.out)
      have hr := reads_code _ _ _ wr (HE.out.below HBW1.out HE.out.size) (by rw [vars1_len]; omega) q1
      rw [← ha.out] at hr
      have HR := Lib.hid hr
      clear e1 e2 e3 f1 f2 f3 q1 q2 q3 hr HBW HE2
      go_wp2_with (go_at_call 18; refine HR.out.mono ?_; rintro e w2 ⟨⟨DA, Dn, Dc, HA, Hn, Hc, SA, Sn, Sc, rfl⟩, hb⟩; (have HB2 := Lib.hid (below_next HBW1.out hb)); clear hb HR HBW1)
      have hb2 := HB2.out.alloc HB2.out.size (.cells #[.slice DA Dn Dc, .slice HA Hn Hc, .slice SA Sn Sc] 26)
      have hr := reads_code _ _ _ (w2.alloc (.cells #[.slice DA Dn Dc, .slice HA Hn Hc, .slice SA Sn Sc] 26)) (HE.out.below hb2 HE.out.size) (by rw [List.length_append]; have := vals1_len k; simp; omega) Q2.out
      rw [← ba_app, ← hb.out] at hr
      have HR := Lib.hid hr
      have HB3 := Lib.hid hb2
      clear hr hb2 HB2
      generalize w2.alloc (.cells #[.slice DA Dn Dc, .slice HA Hn Hc, .slice SA Sn Sc] 26) = W2 at *
      refine HR.out.mono ?_
      rintro e w3 ⟨⟨DA3, Dn3, Dc3, HA3, Hn3, Hc3, SA3, Sn3, Sc3, rfl⟩, hb3⟩
      have hb4 := (below_next HB3.out hb3).alloc (below_next HB3.out hb3).size (.cells #[.slice DA3 Dn3 Dc3, .slice HA3 Hn3 Hc3, .slice SA3 Sn3 Sc3] 26)
      have HB4 := Lib.hid hb4
      clear hb3 hb4 HR HB3
      go_wp2_with fail
      generalize w3.alloc (.cells #[.slice DA3 Dn3 Dc3, .slice HA3 Hn3 Hc3, .slice SA3 Sn3 Sc3] 26) = W3 at *
      clear ha
      obtain ⟨q, hq, hq4, hqk⟩ : ∃ q : Nat, min k 40 = q ∧ q ≤ 40 ∧ q ≤ k := ⟨_, rfl, by omega, by omega⟩
      have HQ := Lib.hid hq
      go_loopg [4, 14] q (fun g a i wr => VarsRel q W3 g a i wr)
      case atStart => exact ⟨0, _, rfl, by omega, rfl, Lib.hid rfl, rfl, rfl, rfl⟩
      case round =>
        obtain ⟨j, sv, rfl, hj, rfl, hv, lv, rfl, hg⟩ := hrel
        have HG := Lib.hid hg
        clear hg hq
        by_cases hjq : j < q
        · have HA : Hid (sv ++ ⟨#[118, 97, 114, 32, 49, 59]⟩ = ⟨(vars1 (j + 1)).toArray⟩) := Lib.hid (by rw [hv.out]; exact ba_app _ _)
          go_wp2
          go_roundg (q - (j + 1))
          case rel => exact ⟨j + 1, _, by go_num, by omega, rfl, HA, by have : (ByteArray.mk #[118, 97, 114, 32, 49, 59]).size = 6 := rfl; rw [ByteArray.size_append]; omega, rfl, rfl⟩
          case measure => have := HG.out; omega
        · obtain rfl : j = q := by omega
          have hr := reads_code _ _ _ wr (HE.out.below HB4.out HE.out.size) (by rw [List.length_append, List.length_append, vars1_len]; have := scope1_len k; simp; omega) Q3.out
          rw [HQ.out, ← ba_app, ← ba_app, ← hc.out, ← hv.out] at hr
          have HR := Lib.hid hr
          have hf3 := F3.out
          rw [HQ.out] at hf3
          have F4 := Lib.hid hf3
          clear hr hv hb hc hf3 F3 Q2 Q3 la lb
          have hsv : (sv.size : Int) = 6 * (j : Int) := by omega
          rcases F1.out with ⟨g1, rfl, rfl⟩ | ⟨g1, rfl, rfl⟩ <;> rcases F2.out with ⟨g2, rfl, rfl⟩ | ⟨g2, rfl, rfl⟩ <;> rcases F4.out with ⟨g3, rfl, rfl⟩ | ⟨g3, rfl, rfl⟩
          all_goals first
            | (exfalso; omega)
            | skip
          · have hb3 : (((6 * j + 17 : Nat) : Int) == 6 * (j : Int) + 5 + 12) = true := by simp; omega
            first
              | (have hx : k ≤ j := by (have := HQ.out; omega))
              | (have hx : 40 ≤ j := by (have := HQ.out; omega))
            clear F1 F2 F4
            go_wp2_with (go_at_call 18; refine HR.out.mono ?_; rintro e w4 ⟨⟨DA4, Dn4, Dc4, HA4, Hn4, Hc4, SA4, Sn4, Sc4, rfl⟩, hb⟩; (have HB5 := Lib.hid ((below_next HB4.out hb).alloc (below_next HB4.out hb).size (.cells #[.slice DA4 Dn4 Dc4, .slice HA4 Hn4 Hc4, .slice SA4 Sn4 Sc4] 26))); clear hb HR HB4)
            go_ret
            exact ⟨ret_bool (by first | rfl | (simp; done) | (simp; omega)), HB5.out⟩
          · have hb3 : (((6 * j + 17 : Nat) : Int) == 6 * (j : Int) + 5 + 12) = true := by simp; omega
            first
              | (have hx : k ≤ j := by (have := HQ.out; omega))
              | (have hx : 40 ≤ j := by (have := HQ.out; omega))
            clear F1 F2 F4
            go_wp2_with (go_at_call 18; refine HR.out.mono ?_; rintro e w4 ⟨⟨DA4, Dn4, Dc4, HA4, Hn4, Hc4, SA4, Sn4, Sc4, rfl⟩, hb⟩; (have HB5 := Lib.hid ((below_next HB4.out hb).alloc (below_next HB4.out hb).size (.cells #[.slice DA4 Dn4 Dc4, .slice HA4 Hn4 Hc4, .slice SA4 Sn4 Sc4] 26))); clear hb HR HB4)
            go_ret
            exact ⟨ret_bool (by first | rfl | (simp; done) | (simp; omega)), HB5.out⟩
          · have hb3 : (((6 * j + 17 : Nat) : Int) == 6 * (j : Int) + 5 + 12) = true := by simp; omega
            first
              | (have hx : k ≤ j := by (have := HQ.out; omega))
              | (have hx : 40 ≤ j := by (have := HQ.out; omega))
            clear F1 F2 F4
            go_wp2_with (go_at_call 18; refine HR.out.mono ?_; rintro e w4 ⟨⟨DA4, Dn4, Dc4, HA4, Hn4, Hc4, SA4, Sn4, Sc4, rfl⟩, hb⟩; (have HB5 := Lib.hid ((below_next HB4.out hb).alloc (below_next HB4.out hb).size (.cells #[.slice DA4 Dn4 Dc4, .slice HA4 Hn4 Hc4, .slice SA4 Sn4 Sc4] 26))); clear hb HR HB4)
            go_ret
            exact ⟨ret_bool (by first | rfl | (simp; done) | (simp; omega)), HB5.out⟩
          · have hb3 : (((6 * j + 17 : Nat) : Int) == 6 * (j : Int) + 5 + 12) = true := by simp; omega
            first
              | (have hx : k ≤ j := by (have := HQ.out; omega))
              | (have hx : 40 ≤ j := by (have := HQ.out; omega))
            clear F1 F2 F4
            go_wp2_with (go_at_call 18; refine HR.out.mono ?_; rintro e w4 ⟨⟨DA4, Dn4, Dc4, HA4, Hn4, Hc4, SA4, Sn4, Sc4, rfl⟩, hb⟩; (have HB5 := Lib.hid ((below_next HB4.out hb).alloc (below_next HB4.out hb).size (.cells #[.slice DA4 Dn4 Dc4, .slice HA4 Hn4 Hc4, .slice SA4 Sn4 Sc4] 26))); clear hb HR HB4)
            go_ret
            exact ⟨ret_bool (by first | rfl | (simp; done) | (simp; omega)), HB5.out⟩
end Go.Proofs.YtoahaigfjfeopaaGreatDoor

/- THE CARD OF arboristlaw06.InstMany: its contract, its row, its card. -/
namespace Go.Proofs.YtoahaigfjfeopaaGreatDoor.instMany
open Go.ChangeShapes Go.WideShapes Go.ChangeAt Go.RowKit

set_option maxRecDepth 100000 in
theorem contract (H : Type) (enc : TypeId × Value → H) (W : World) (base : Nat) (args : Array Value) (ds gs : List (DataW H)) (before : List MemPlace)
    (hval : ∀ (j : Nat) t v, Tryz.f9.params[j]? = some t → args[j]? = some v → Value.okWide Tryz.prog W .any base t v)
    (hW : DataW.Whole enc Tryz.prog Tryz.f9.params.toList Rows.instManySpec.vars false W args.toList ds gs before)
    (hsz : (DataW.weightsEach Tryz.prog (Tryz.f9.params.toList ++ []) (ds ++ gs)).all (· ≤ reachBytes) = true) (hL : laidMetH Tryz.prog Rows.instManyRow.laid W) :
    Calls Tryz.prog 9 args W fun e W' => ∃ v, e = .returned v ∧ Rows.instManySpec.post enc Tryz.prog Tryz.f9 false true false false W args v W' := by
  have hW' := hW
  obtain ⟨p, q, hA0, hV, rfl, hfz, hnd⟩ := hW
  have hA : DataW.TrodAll enc Tryz.prog W 0 (fun _ => true) true Tryz.f9.params.toList args.toList ds p := hA0
  rw [Tryz.params9] at hA hval hsz
  obtain ⟨v0, vs0, d0, ds0, p0, q0, hargs, rfl, rfl, h0, r0⟩ := trodAll_cons hA
  obtain ⟨rfl, rfl, rfl⟩ := trodAll_nil r0
  obtain rfl : args = #[v0] := by cases args; simp_all
  obtain ⟨rfl, rfl⟩ := trodVars_none hV
  simp only [List.append_nil] at hW' hsz
  have h0k := h0
  obtain ⟨n, rfl, rfl, rfl, _⟩ := open_int Tryz.underlying3 (hval 0 3 v0 rfl rfl) h0
  refine (many_any n W (env_of_laid hL)).mono fun e W' ⟨he, hg⟩ => ?_
  subst he
  exact ⟨_, rfl, post_true1 Tryz.params9 (by kernel_rfl) rfl rfl (by kernel_rfl) (of_decide_eq_true (by kernel_rfl)) h0k hW' hg⟩

theorem reads (os : Os) {H : Type} (enc : TypeId × Value → H) : ∃ places, DataW.whole enc Tryz.prog ((World.doorLaid Tryz.prog 200 os).forCall (fun _ _ => 0) ⟨#[], #[.int .i64 0], []⟩).memory Tryz.f9.params.toList Rows.instManySpec.vars false #[Value.int .i64 0].toList 8 = some ([.lit (.int .i64 0)], [], places) :=
  ⟨[], by kernel_rfl⟩

set_option maxRecDepth 100000 in
theorem lifted (os : Os) (started : os.Started) (H : Type) (enc : TypeId × Value → H) (F : Stop.Interp) :
    ReturnsInHanded {} Tryz.checked os 9 .any ((OpenSpec.ofChange Rows.instManySpec).preRow enc Tryz.prog Tryz.f9 Rows.instManyRow.domain false Rows.instManyRow.laid) (((OpenSpec.ofChange Rows.instManySpec).at F).post enc Tryz.prog Tryz.f9 false true false false) := by
  obtain ⟨places, hx⟩ := reads os enc
  refine returnsInHanded_of_row (C := Tryz.checked) (s := OpenSpec.ofChange Rows.instManySpec) own_knob started (by kernel_rfl) Tryz.func9
    (witness_row_atRef (enc := enc) (C := Tryz.checked) false (World.doorLaid Tryz.prog 200 os) #[.int .i64 0] rfl (by kernel_rfl) (by kernel_rfl) (by kernel_rfl)
      (OpenSpec.preRow_of_cond 8 hx (by kernel_rfl) (fun k hk => by cases hk) (by kernel_rfl) (laid_met os _))) ?_
  intro W base args ds gs before hval hW _ _ hsz hL _ _
  exact contract H enc W base args ds gs before hval hW hsz hL

theorem said : Rows.InstManySaid :=
  OpenClaim.holds_of_cond 9 Tryz.f9 rfl rfl rfl rfl rfl rfl rfl ⟨rfl, rfl, rfl, rfl, rfl⟩ rfl rfl rfl rfl rfl (by kernel_rfl) Tryz.func9 (by kernel_rfl)
    (of_decide_eq_true (by kernel_rfl)) (by unfold Func.isWrapper; first | (rw [if_pos (by decide +kernel)]; kernel_rfl) | (rw [if_neg (by decide +kernel)]; exact ⟨rfl, rfl⟩))
    (fun os started H enc _ F => by rw [OpenClaim.pre_eq_preRow]; exact lifted os started H enc F)

theorem plain (f : FuncId) (fn : Func) (hf : Tryz.pinned.checked.prog.funcNamed "arborist/arboristlaw06.InstMany" = some f) (hfn : Tryz.pinned.checked.prog.funcs[f]? = some fn) :
    true = Tryz.pinned.checked.prog.looks [] ∧ ∀ (j : Nat) t, fn.params[j]? = some t → Tryz.pinned.checked.prog.wantsStandIn t = false := by
  obtain rfl : f = 9 := Option.some.inj ((show Tryz.prog.funcNamed "arborist/arboristlaw06.InstMany" = some 9 by kernel_rfl).symm.trans hf) |>.symm
  obtain rfl : fn = Tryz.f9 := (Option.some.inj (Tryz.func9.symm.trans hfn)).symm
  refine ⟨by kernel_rfl, fun j t ht => ?_⟩
  rw [Tryz.params9] at ht
  obtain rfl : t = 3 := by simpa using Array.mem_of_getElem? ht
  exact (show Tryz.prog.wantsStandIn 3 = false by kernel_rfl)

theorem card : Rows.InstManyCardSaid :=
  Claim7.holds_tied_plain_at .later [] _ _ _ _ said (fun _ h => by cases h) (by kernel_rfl) (fun _ h => by cases h) instMany_row_tie rfl ⟨rfl, rfl⟩ (by kernel_rfl) rfl plain (by kernel_rfl)
end Go.Proofs.YtoahaigfjfeopaaGreatDoor.instMany
