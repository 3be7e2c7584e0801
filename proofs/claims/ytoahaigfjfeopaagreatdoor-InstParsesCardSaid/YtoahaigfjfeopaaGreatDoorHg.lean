/- Texts joined: Wbi Be Bh Wbj Wbk Wav Wbl Wbm Pqa Wbn Pqb. -/
import Derived.Test.YtoahaigfjfeopaaGreatDoorHf
import Derived.Test.YtoahaigfjfeopaaGreatDoorHb
import Derived.Test.YtoahaigfjfeopaaGreatDoorHc
import Derived.Test.YtoahaigfjfeopaaGreatDoorHa
import Derived.BigQuiet
import Derived.Test.YtoahaigfjfeopaaGreatDoorHd
/- arboristref05.All. -/
namespace Go.Proofs.YtoahaigfjfeopaaGreatDoor
open Go.RowKit

/-- A row of the reference's tokens. -/
def OwnR (base : Nat) (v : Value) (ts : List Tok) (w : World) : Prop := w.ownsRow base 90 4 v ts.length (ts.flatMap tokC)
theorem OwnR.sl {base : Nat} {v : Value} {ts : List Tok} {w : World} (h : OwnR base v ts w) (hl : ts.length ≤ 140737488355328) : Sl kTok w (base ≤ ·) v ts := by
  rcases h.2 with ⟨rfl, h0⟩ | ⟨g, cap, cur, rfl, hb, hg, hnc, hcm, hcs, ht⟩
  · obtain rfl : ts = [] := List.eq_nil_of_length_eq_zero h0
    exact ⟨none, 0, rfl, Nat.le_refl _, by simp, fun j x hx => by simp at hx⟩
  · refine ⟨_, cap, rfl, hnc, hl, fun j t hj => ⟨g, 0, tokC t, rfl, hb, kTok_mk t, fun i u hu => ?_⟩⟩
    have hc := h.cells (g := g) rfl (j * 4 + i) u (flat_tok ts j t hj i u hu)
    have e : (⟨g, 0, none⟩ : Addr).add (j * 4 + i) = ⟨g, 0 + (j * 4 + i), none⟩ := by unfold Addr.add; split <;> simp_all
    rw [e] at hc
    exact hc
theorem runP_at (p : UInt8 → Bool) (l : List UInt8) (f j : Nat) (h : j < runP p (l.drop f)) : f + j < l.length ∧ p (nth 0 l (f + j)) = true := by
  have := run_lt p (l.drop f) j h
  rw [List.length_drop, nth_drop] at this
  exact ⟨by omega, this.2⟩
theorem runP_stop (p : UInt8 → Bool) (l : List UInt8) (f : Nat) : (decide (f + runP p (l.drop f) < l.length) && p (nth 0 l (f + runP p (l.drop f)))) = false := by
  have := run_end p (l.drop f)
  rw [List.length_drop, nth_drop] at this
  rw [← this]
  congr 1
  rw [decide_eq_decide]
  omega
theorem extract_mid (l : List UInt8) (q n : Nat) : (ByteArray.mk l.toArray).extract q (q + n) = ByteArray.mk ((l.drop q).take n).toArray := by
  rw [Lib.extract_eq]
  apply ByteArray.ext
  simp
theorem tokenP_drop (l : List UInt8) (q : Nat) (h : q < l.length) :
    (isSign (nth 0 l q) = true → tokenP (l.drop q) = .ok (⟨3, [nth 0 l q], 0, 0⟩, 1)) ∧
    (isLetter (nth 0 l q) = true → tokenP (l.drop q) = .ok (⟨1, (l.drop q).take (runP isLetter (l.drop q)), 0, 0⟩, runP isLetter (l.drop q))) ∧
    ((isDigit (nth 0 l q) = true ∨ (nth 0 l q).toNat = 45) → tokenP (l.drop q) = match numP (l.drop q) with | .ok (n, k) => .ok (⟨2, [], n, 0⟩, k) | .error e => .error e) ∧
    (isSign (nth 0 l q) = false → isLetter (nth 0 l q) = false → isDigit (nth 0 l q) = false → ¬ (nth 0 l q).toNat = 45 → tokenP (l.drop q) = .error 2) := by
  rw [drop_cons l 0 q h]
  generalize nth 0 l q = c
  generalize l.drop (q + 1) = r
  refine ⟨fun hs => ?_, fun hs => ?_, fun hs => ?_, fun h1 h2 h3 h4 => ?_⟩
  · rw [tokenP, if_pos (of_decide_eq_true hs)]
  · have h2 : ¬ (c.toNat = 58 ∨ c.toNat = 44 ∨ c.toNat = 59) := by simp only [isLetter, Bool.and_eq_true, decide_eq_true_eq] at hs; omega
    rw [tokenP, if_neg h2, if_pos hs]
  · have h2 : ¬ (c.toNat = 58 ∨ c.toNat = 44 ∨ c.toNat = 59) := by
      rcases hs with hs | hs
      · simp only [isDigit, Bool.and_eq_true, decide_eq_true_eq] at hs; omega
      · omega
    have h3 : ¬ isLetter c = true := by
      rcases hs with hs | hs
      · simp only [isDigit, isLetter, Bool.and_eq_true, decide_eq_true_eq] at hs ⊢; omega
      · simp only [isLetter, Bool.and_eq_true, decide_eq_true_eq]; omega
    rw [tokenP, if_neg h2, if_neg h3, if_pos hs]
    cases numP (c :: r) <;> rfl
  · rw [tokenP, if_neg (of_decide_eq_false h1), if_neg (by rw [h2]; decide), if_neg (by rw [h3]; simp [h4])]
theorem all_next {l : List UInt8} {q : Nat} {ts : List Tok} {t : Tok} {k : Nat} (hall : allP l = preP ts (scanQ q (l.drop q))) (hl : leftP (l.drop q) = 0) (hq : q < l.length) (ht : tokenP (l.drop q) = .ok (t, k)) :
    0 < k ∧ q + k ≤ l.length ∧ q + k + skipP false (l.drop (q + k)) ≤ l.length ∧ (l.drop (q + k + skipP false (l.drop (q + k))) = [] ∨ leftP (l.drop (q + k + skipP false (l.drop (q + k)))) = 0) ∧
    allP l = preP (ts ++ [{ t with at_ := q }]) (scanQ (q + k + skipP false (l.drop (q + k))) (l.drop (q + k + skipP false (l.drop (q + k))))) := by
  have h1 := tokenP_size ht
  rw [List.length_drop] at h1
  have h2 := skip_le (l.drop (q + k)) false
  rw [List.length_drop] at h2
  have h3 := skip_stop (l.drop (q + k)) false
  rw [List.drop_drop] at h3
  refine ⟨h1.1, by omega, by omega, h3, ?_⟩
  have hne : l.drop q ≠ [] := by intro h; have := congrArg List.length h; rw [List.length_drop] at this; simp at this; omega
  rw [hall, scanQ_tok q (l.drop q) hne (by omega) ht, preP_tok, List.drop_drop, scan_skip l.length (l.drop (q + k)) (q + k) (by rw [List.length_drop]; omega), List.drop_drop]
theorem all_bad {l : List UInt8} {q : Nat} {ts : List Tok} {x : Int} (hall : allP l = preP ts (scanQ q (l.drop q))) (hl : leftP (l.drop q) = 0) (hq : q < l.length) (ht : tokenP (l.drop q) = .error x) : allP l = .error (q, x) := by
  have hne : l.drop q ≠ [] := by intro h; have := congrArg List.length h; rw [List.length_drop] at this; simp at this; omega
  rw [hall, scanQ_bad q (l.drop q) hne (by omega) ht]; rfl
theorem tok_snocR {base : Nat} {v : Value} {ts : List Tok} {t : Tok} {w : World} (h : w.ownsRow base 90 4 v (ts.length + 1) (ts.flatMap tokC ++ tokC t)) : OwnR base v (ts ++ [t]) w := by
  unfold OwnR; rw [tok_snoc, List.length_append]; exact h
def AllRet (base : Nat) (r : Except (Nat × Int) (List Tok)) (w' : World) (e : Ending) : Prop :=
  match r with
  | .ok ts => ∃ v, e = .returned (.tuple #[v, .int .i64 0, .int .i64 0]) ∧ OwnR base v ts w' ∧ ts.length ≤ 100001
  | .error (p, x) => e = .returned (.tuple #[.slice none 0 0, .int .i64 p, .int .i64 x])
def AllRel (l : List UInt8) (w : World) (g : Nat) (v i : Value) (wr : World) : Prop :=
  ∃ (q : Nat) (ts : List Tok), i = .int .i64 q ∧ q ≤ l.length ∧ ts.length ≤ q ∧ Hid (OwnR w.heap.size v ts wr) ∧ Hid (Below w.heap.size w wr) ∧ Hid (allP l = preP ts (scanQ q (l.drop q))) ∧ (l.drop q = [] ∨ leftP (l.drop q) = 0) ∧ g = l.length - q
def LetRel (q n : Nat) (w : World) (g : Nat) (i : Value) (wr : World) : Prop := ∃ j : Nat, i = .int .i64 (q + j) ∧ j ≤ n ∧ wr = w ∧ g = n - j
set_option maxRecDepth 100000 in
set_option maxHeartbeats 8000000 in
theorem refall_any (l : List UInt8) (w : World) (hl : l.length ≤ 140737488355328) : Calls Tryz.prog 47 #[.string ⟨l.toArray⟩] w fun e w' => AllRet w.heap.size (allP l) w' e ∧ Below w.heap.size w w' := by
  by_cases hbig : 100000 < l.length
  · have HP : Hid (allP l = .error (0, 7)) := Lib.hid (by unfold allP; rw [if_pos hbig])
    go_enter Tryz.func47, Tryz.ntmps47
    go_wp2
    go_ret3
    rw [HP.out]
    exact ⟨rfl, Below.refl _ _⟩
  · have hsm : l.length ≤ 100000 := by omega
    have HP : Hid (allP l = scanQ 0 l) := Lib.hid (by unfold allP scanQ; rw [if_neg hbig])
    clear hbig
    have how := World.ownsRow_lit (base := w.heap.size) (e := 90) (size := 4) w #[] 0 (Nat.le_refl _) (by decide) rfl
    have HO0 : Hid (OwnR w.heap.size (.slice (some ⟨w.heap.size, 0, none⟩) 0 0) [] (w.alloc (.cells #[] 90))) := Lib.hid how
    have HB0 := Lib.hid (below_alloc1 w (.cells #[] 90))
    have HSK := Lib.hid (refskip_any l 0 (w.alloc (.cells #[] 90)) hl (Nat.zero_le _))
    have HLE := Lib.hid (skip_le l false)
    have HST := Lib.hid (skip_stop l false)
    have HSC := Lib.hid (scan_skip l.length l 0 (Nat.le_refl _))
    clear how
    go_enter Tryz.func47, Tryz.ntmps47
    go_wp2_with (go_at_call 76; refine HSK.out.mono ?_; rintro e w' ⟨rfl, rfl⟩)
    rw [Nat.zero_add] at HSC
    clear HSK
    go_loopg [5, 6] (l.length - skipP false l) (fun g v i wr => AllRel l w g v i wr)
    case atStart => exact ⟨skipP false l, [], rfl, HLE.out, Nat.zero_le _, HO0, HB0, Lib.hid (by rw [HP.out, HSC.out, preP_nil]), HST.out, rfl⟩
    case round =>
      clear HSC HST HLE HP HO0 HB0
      obtain ⟨q, ts, rfl, hq, hts, HO, HB, HA, hst, hg⟩ := hrel
      have HG := Lib.hid hg
      obtain ⟨i0, hi, hz0, hz1, hz2⟩ := info_parts (show (Tryz.prog.info? 90).map (fun i => (i.zero, i.size, i.bytes)) = some (some (.agg #[.int .i64 0, .string ⟨#[]⟩, .int .i64 0, .int .i64 0]), 4, 40) by kernel_rfl)
      have hwb := HB.out.size
      clear hg
      by_cases hlt : q < l.length
      · have hleft : leftP (l.drop q) = 0 := by
          rcases hst with h | h
          · have := congrArg List.length h; rw [List.length_drop] at this; simp at this; omega
          · exact h
        have HNX := Lib.hid fun t k (ht : tokenP (l.drop q) = .ok (t, k)) => all_next HA.out hleft hlt ht
        have HBD := Lib.hid fun x (ht : tokenP (l.drop q) = .error x) => all_bad HA.out hleft hlt ht
        have HAT := Lib.hid (runP_at isLetter l q)
        have hsp := runP_stop isLetter l q
        have hrn : runP isLetter (l.drop q) = if isLetter (nth 0 l q) = true then runP isLetter (l.drop (q + 1)) + 1 else 0 := runP_drop isLetter l q hlt
        have hrl := runP_le isLetter (l.drop q)
        rw [List.length_drop] at hrl
        have HTK := Lib.hid (tokenP_drop l q hlt)
        have hb := byte_nth l q hlt
        have HC : Hid (l.drop q = nth 0 l q :: l.drop (q + 1)) := Lib.hid (drop_cons l 0 q hlt)
        have hdig := refdigit_any l q wr (by omega)
        rw [decide_eq_true hlt, Bool.true_and] at hdig
        generalize nth 0 l q = c at *
        have hcu := c.toNat_lt
        generalize hn : runP isLetter (l.drop q) = n at *
        have HSP := Lib.hid hsp
        have HDI := Lib.hid hdig
        have HN := Lib.hid hn
        clear hst hleft hsp hdig hn
        by_cases hlet : isLetter c = true
        · rw [if_pos hlet] at hrn
          have hn1 : 1 ≤ n := by omega
          have hng : decide ((0 : Int) < n) = true := decide_eq_true (by omega)
          obtain ⟨hk0, hqk, hq3, hst3, hall⟩ := HNX.out _ _ (HTK.out.2.1 hlet)
          have hex := extract_mid l q n
          generalize hs : skipP false (l.drop (q + n)) = s at *
          have HST := Lib.hid hst3
          have HAL := Lib.hid hall
          have HS := Lib.hid hs
          clear hrn hk0 hst3 hall HTK HBD HNX HN hs HA
          go_wp2_with fail
          go_loopg [8] n (fun g i wx => LetRel q n wr g i wx)
          case atStart => exact ⟨0, by go_num, Nat.zero_le _, rfl, rfl⟩
          case round =>
          obtain ⟨j, rfl, hj, rfl, hg⟩ := hrel
          have HGJ := Lib.hid hg
          clear hg
          have hlc := refletter_any l (q + j) wr (by omega)
          rw [show ((q + j : Nat) : Int) = (q : Int) + j by omega] at hlc
          by_cases hjn : j < n
          · obtain ⟨hjl, hje⟩ := HAT.out j hjn
            rw [decide_eq_true hjl, hje] at hlc
            have HLC := Lib.hid hlc
            clear hlc
            go_wp2_with (go_at_call 77; refine HLC.out.mono ?_; rintro e wq ⟨rfl, hwq⟩; subst wq)
            go_roundg (n - (j + 1))
            case rel => exact ⟨j + 1, by go_num, by omega, rfl, rfl⟩
            case measure => have := HGJ.out; omega
          obtain rfl : j = n := by omega
          rw [HSP.out] at hlc
          have HLC := Lib.hid hlc
          clear hlc hjn HGJ hj HAT HSP
          go_wp2_with (first
            | (go_at_call 77; refine HLC.out.mono ?_; rintro e wq ⟨rfl, hwq⟩; subst wq)
            | (go_at_call 78; refine HDI.out.mono ?_; rintro e wq ⟨rfl, hwq⟩; subst wq)
            | (go_at_call 79; refine HNUM.out.mono ?_; rintro e wq ⟨rfl, hwq⟩; subst wq)
            | (at_builtin; refine wpList_append_own_at _ rfl _ _ 84 rfl w.heap.size 90 i0 _ 4 40 Tryz.underlying84 hi hz0 hz1 hz2 rfl (by decide) _ _ _ rfl (HO.out.alloc _) ⟨wr.heap.size, 0, none⟩ 1 1 (tokC ⟨1, (l.drop q).take j, 0, q⟩) rfl rfl ?c1 ?c2 ?c3 ?c4 ?c5 ?_))
          case c1 => exact World.news_of_block (cs := (tokC ⟨1, (l.drop q).take j, 0, q⟩).toArray) (t := 90) (fr := (0, 0)) (heap_alloc_new wr _)
          case c2 => exact tok_one _
          case c3 => unfold maxLen; omega
          case c4 => omega
          case c5 => simp; omega
          intro v' w2 hown' hgrow _ _
          have HO2 := Lib.hid (tok_snocR hown')
          have HB2 := Lib.hid (((HB.out.alloc (by omega) _).grown hgrow (by simp; omega) (fun k hk => (HO.out.lt k hk).1)))
          have hsk := refskip_any l (q + j) w2 hl hqk
          rw [HS.out, show ((q + j : Nat) : Int) = (q : Int) + j by omega] at hsk
          have HSK := Lib.hid hsk
          clear hown' hgrow hsk
          go_wp2_with (go_at_call 76; refine HSK.out.mono ?_; rintro e wq ⟨rfl, hwq⟩; subst wq)
          go_roundg (l.length - (q + j + s))
          case rel => exact ⟨q + j + s, ts ++ [⟨1, (l.drop q).take j, 0, q⟩], rfl, hq3, by simp; omega, HO2, HB2, HAL, HST.out, rfl⟩
          case measure => have := HG.out; omega
        · rw [if_neg hlet] at hrn
          have HN0 := Lib.hid hrn
          have hlf : isLetter c = false := by simpa using hlet
          clear HN hrn hlet
          by_cases hdm : isDigit c = true ∨ c.toNat = 45
          · have htk := HTK.out.2.2.1 hdm
            have HNUM := Lib.hid (refnumber_any l q wr hl hlt)
            have HDM := Lib.hid hdm
            clear hlf
            cases hnp : numP (l.drop q) with
            | error x =>
              rw [hnp] at htk HNUM
              have HF := Lib.hid (HBD.out x htk)
              have hx0 : ((x : Int) != 0) = true := by rcases numP_err hnp with h | h <;> (rw [h]; decide)
              clear hnp htk HTK HNX HBD HA hdm
              cases hdg : isDigit c with
              | true =>
                rw [hdg] at HDI
                clear hdg
                go_wp2_with fail
                go_loopg [8] n (fun g i wx => LetRel q n wr g i wx)
                case atStart => exact ⟨0, by go_num, Nat.zero_le _, rfl, rfl⟩
                case round =>
                obtain ⟨j, rfl, hj, rfl, hg⟩ := hrel
                have HGJ := Lib.hid hg
                clear hg
                have hlc := refletter_any l (q + j) wr (by omega)
                rw [show ((q + j : Nat) : Int) = (q : Int) + j by omega] at hlc
                by_cases hjn : j < n
                · obtain ⟨hjl, hje⟩ := HAT.out j hjn
                  rw [decide_eq_true hjl, hje] at hlc
                  have HLC := Lib.hid hlc
                  clear hlc
                  go_wp2_with (go_at_call 77; refine HLC.out.mono ?_; rintro e wq ⟨rfl, hwq⟩; subst wq)
                  go_roundg (n - (j + 1))
                  case rel => exact ⟨j + 1, by go_num, by omega, rfl, rfl⟩
                  case measure => have := HGJ.out; omega
                obtain rfl : j = n := by omega
                rw [HSP.out] at hlc
                have HLC := Lib.hid hlc
                clear hlc hjn HGJ hj HAT HSP
                obtain rfl : j = 0 := HN0.out
                go_wp2_with (first
                  | (go_at_call 77; refine HLC.out.mono ?_; rintro e wq ⟨rfl, hwq⟩; subst wq)
                  | (go_at_call 78; refine HDI.out.mono ?_; rintro e wq ⟨rfl, hwq⟩; subst wq)
                  | (go_at_call 79; refine HNUM.out.mono ?_; rintro e wq ⟨⟨p, rfl⟩, hwq⟩; subst wq))
                go_ret3
                rw [HF.out]
                exact ⟨rfl, HB.out⟩
              | false =>
                rw [hdg] at HDI
                have hc45 : ((c.toNat : Int) == 45) = true := by rcases HDM.out with h | h; rw [hdg] at h; cases h; simp; omega
                clear hdg
                go_wp2_with fail
                go_loopg [8] n (fun g i wx => LetRel q n wr g i wx)
                case atStart => exact ⟨0, by go_num, Nat.zero_le _, rfl, rfl⟩
                case round =>
                obtain ⟨j, rfl, hj, rfl, hg⟩ := hrel
                have HGJ := Lib.hid hg
                clear hg
                have hlc := refletter_any l (q + j) wr (by omega)
                rw [show ((q + j : Nat) : Int) = (q : Int) + j by omega] at hlc
                by_cases hjn : j < n
                · obtain ⟨hjl, hje⟩ := HAT.out j hjn
                  rw [decide_eq_true hjl, hje] at hlc
                  have HLC := Lib.hid hlc
                  clear hlc
                  go_wp2_with (go_at_call 77; refine HLC.out.mono ?_; rintro e wq ⟨rfl, hwq⟩; subst wq)
                  go_roundg (n - (j + 1))
                  case rel => exact ⟨j + 1, by go_num, by omega, rfl, rfl⟩
                  case measure => have := HGJ.out; omega
                obtain rfl : j = n := by omega
                rw [HSP.out] at hlc
                have HLC := Lib.hid hlc
                clear hlc hjn HGJ hj HAT HSP
                obtain rfl : j = 0 := HN0.out
                go_wp2_with (first
                  | (go_at_call 77; refine HLC.out.mono ?_; rintro e wq ⟨rfl, hwq⟩; subst wq)
                  | (go_at_call 78; refine HDI.out.mono ?_; rintro e wq ⟨rfl, hwq⟩; subst wq)
                  | (go_at_call 79; refine HNUM.out.mono ?_; rintro e wq ⟨⟨p, rfl⟩, hwq⟩; subst wq))
                go_ret3
                rw [HF.out]
                exact ⟨rfl, HB.out⟩
            | ok nk =>
              obtain ⟨m, k⟩ := nk
              rw [hnp] at htk HNUM
              obtain ⟨hk0, hqk, hq3, hst3, hall⟩ := HNX.out _ _ htk
              generalize hs : skipP false (l.drop (q + k)) = s at *
              have HST := Lib.hid hst3
              have HAL := Lib.hid hall
              have HS := Lib.hid hs
              clear hnp htk hst3 hall HTK HBD HNX hs HA hdm
              cases hdg : isDigit c with
              | true =>
                rw [hdg] at HDI
                clear hdg
                go_wp2_with fail
                go_loopg [8] n (fun g i wx => LetRel q n wr g i wx)
                case atStart => exact ⟨0, by go_num, Nat.zero_le _, rfl, rfl⟩
                case round =>
                obtain ⟨j, rfl, hj, rfl, hg⟩ := hrel
                have HGJ := Lib.hid hg
                clear hg
                have hlc := refletter_any l (q + j) wr (by omega)
                rw [show ((q + j : Nat) : Int) = (q : Int) + j by omega] at hlc
                by_cases hjn : j < n
                · obtain ⟨hjl, hje⟩ := HAT.out j hjn
                  rw [decide_eq_true hjl, hje] at hlc
                  have HLC := Lib.hid hlc
                  clear hlc
                  go_wp2_with (go_at_call 77; refine HLC.out.mono ?_; rintro e wq ⟨rfl, hwq⟩; subst wq)
                  go_roundg (n - (j + 1))
                  case rel => exact ⟨j + 1, by go_num, by omega, rfl, rfl⟩
                  case measure => have := HGJ.out; omega
                obtain rfl : j = n := by omega
                rw [HSP.out] at hlc
                have HLC := Lib.hid hlc
                clear hlc hjn HGJ hj HAT HSP
                obtain rfl : j = 0 := HN0.out
                go_wp2_with (first
                  | (go_at_call 77; refine HLC.out.mono ?_; rintro e wq ⟨rfl, hwq⟩; subst wq)
                  | (go_at_call 78; refine HDI.out.mono ?_; rintro e wq ⟨rfl, hwq⟩; subst wq)
                  | (go_at_call 79; refine HNUM.out.mono ?_; rintro e wq ⟨rfl, hwq⟩; subst wq)
                  | (at_builtin; refine wpList_append_own_at _ rfl _ _ 84 rfl w.heap.size 90 i0 _ 4 40 Tryz.underlying84 hi hz0 hz1 hz2 rfl (by decide) _ _ _ rfl (HO.out.alloc _) ⟨wr.heap.size, 0, none⟩ 1 1 (tokC ⟨2, [], m, q⟩) rfl rfl ?c1 ?c2 ?c3 ?c4 ?c5 ?_))
                case c1 => exact World.news_of_block (cs := (tokC ⟨2, [], m, q⟩).toArray) (t := 90) (fr := (0, 0)) (heap_alloc_new wr _)
                case c2 => exact tok_one _
                case c3 => unfold maxLen; omega
                case c4 => omega
                case c5 => simp; omega
                intro v' w2 hown' hgrow _ _
                have HO2 := Lib.hid (tok_snocR hown')
                have HB2 := Lib.hid (((HB.out.alloc (by omega) _).grown hgrow (by simp; omega) (fun k hk => (HO.out.lt k hk).1)))
                have hsk := refskip_any l (q + k) w2 hl hqk
                rw [HS.out, show ((q + k : Nat) : Int) = (q : Int) + k by omega] at hsk
                have HSK := Lib.hid hsk
                clear hown' hgrow hsk
                go_wp2_with (go_at_call 76; refine HSK.out.mono ?_; rintro e wq ⟨rfl, hwq⟩; subst wq)
                go_roundg (l.length - (q + k + s))
                case rel => exact ⟨q + k + s, ts ++ [⟨2, [], m, q⟩], rfl, hq3, by simp; omega, HO2, HB2, HAL, HST.out, rfl⟩
                case measure => have := HG.out; omega
              | false =>
                rw [hdg] at HDI
                have hc45 : ((c.toNat : Int) == 45) = true := by rcases HDM.out with h | h; rw [hdg] at h; cases h; simp; omega
                clear hdg
                go_wp2_with fail
                go_loopg [8] n (fun g i wx => LetRel q n wr g i wx)
                case atStart => exact ⟨0, by go_num, Nat.zero_le _, rfl, rfl⟩
                case round =>
                obtain ⟨j, rfl, hj, rfl, hg⟩ := hrel
                have HGJ := Lib.hid hg
                clear hg
                have hlc := refletter_any l (q + j) wr (by omega)
                rw [show ((q + j : Nat) : Int) = (q : Int) + j by omega] at hlc
                by_cases hjn : j < n
                · obtain ⟨hjl, hje⟩ := HAT.out j hjn
                  rw [decide_eq_true hjl, hje] at hlc
                  have HLC := Lib.hid hlc
                  clear hlc
                  go_wp2_with (go_at_call 77; refine HLC.out.mono ?_; rintro e wq ⟨rfl, hwq⟩; subst wq)
                  go_roundg (n - (j + 1))
                  case rel => exact ⟨j + 1, by go_num, by omega, rfl, rfl⟩
                  case measure => have := HGJ.out; omega
                obtain rfl : j = n := by omega
                rw [HSP.out] at hlc
                have HLC := Lib.hid hlc
                clear hlc hjn HGJ hj HAT HSP
                obtain rfl : j = 0 := HN0.out
                go_wp2_with (first
                  | (go_at_call 77; refine HLC.out.mono ?_; rintro e wq ⟨rfl, hwq⟩; subst wq)
                  | (go_at_call 78; refine HDI.out.mono ?_; rintro e wq ⟨rfl, hwq⟩; subst wq)
                  | (go_at_call 79; refine HNUM.out.mono ?_; rintro e wq ⟨rfl, hwq⟩; subst wq)
                  | (at_builtin; refine wpList_append_own_at _ rfl _ _ 84 rfl w.heap.size 90 i0 _ 4 40 Tryz.underlying84 hi hz0 hz1 hz2 rfl (by decide) _ _ _ rfl (HO.out.alloc _) ⟨wr.heap.size, 0, none⟩ 1 1 (tokC ⟨2, [], m, q⟩) rfl rfl ?c1 ?c2 ?c3 ?c4 ?c5 ?_))
                case c1 => exact World.news_of_block (cs := (tokC ⟨2, [], m, q⟩).toArray) (t := 90) (fr := (0, 0)) (heap_alloc_new wr _)
                case c2 => exact tok_one _
                case c3 => unfold maxLen; omega
                case c4 => omega
                case c5 => simp; omega
                intro v' w2 hown' hgrow _ _
                have HO2 := Lib.hid (tok_snocR hown')
                have HB2 := Lib.hid (((HB.out.alloc (by omega) _).grown hgrow (by simp; omega) (fun k hk => (HO.out.lt k hk).1)))
                have hsk := refskip_any l (q + k) w2 hl hqk
                rw [HS.out, show ((q + k : Nat) : Int) = (q : Int) + k by omega] at hsk
                have HSK := Lib.hid hsk
                clear hown' hgrow hsk
                go_wp2_with (go_at_call 76; refine HSK.out.mono ?_; rintro e wq ⟨rfl, hwq⟩; subst wq)
                go_roundg (l.length - (q + k + s))
                case rel => exact ⟨q + k + s, ts ++ [⟨2, [], m, q⟩], rfl, hq3, by simp; omega, HO2, HB2, HAL, HST.out, rfl⟩
                case measure => have := HG.out; omega
          · have hdf : isDigit c = false := by cases h : isDigit c; rfl; exact absurd (.inl h) hdm
            have h45 : ¬ c.toNat = 45 := fun h => hdm (.inr h)
            have hc45 : ((c.toNat : Int) == 45) = false := by simp; omega
            rw [hdf] at HDI
            by_cases hsg : isSign c = true
            · obtain ⟨hk0, hqk, hq3, hst3, hall⟩ := HNX.out _ _ (HTK.out.1 hsg)
              have hex := extract_mid l q 1
              have HT1 : Hid ((l.drop q).take 1 = [c]) := Lib.hid (by have := HTK.out.1 hsg; rw [HC.out]; rfl)
              rw [HT1.out] at hex
              generalize hs : skipP false (l.drop (q + 1)) = s at *
              have HST := Lib.hid hst3
              have HAL := Lib.hid hall
              have HS := Lib.hid hs
              have hor : c.toNat = 58 ∨ c.toNat = 44 ∨ c.toNat = 59 := of_decide_eq_true hsg
              clear hst3 hall HTK HBD HNX hs HA hk0 hdm hdf h45 hsg hlf
              by_cases h58 : c.toNat = 58
              · have hc58 : ((c.toNat : Int) == 58) = true := by simp; omega
                clear h58 hor
                go_wp2_with fail
                go_loopg [8] n (fun g i wx => LetRel q n wr g i wx)
                case atStart => exact ⟨0, by go_num, Nat.zero_le _, rfl, rfl⟩
                case round =>
                obtain ⟨j, rfl, hj, rfl, hg⟩ := hrel
                have HGJ := Lib.hid hg
                clear hg
                have hlc := refletter_any l (q + j) wr (by omega)
                rw [show ((q + j : Nat) : Int) = (q : Int) + j by omega] at hlc
                by_cases hjn : j < n
                · obtain ⟨hjl, hje⟩ := HAT.out j hjn
                  rw [decide_eq_true hjl, hje] at hlc
                  have HLC := Lib.hid hlc
                  clear hlc
                  go_wp2_with (go_at_call 77; refine HLC.out.mono ?_; rintro e wq ⟨rfl, hwq⟩; subst wq)
                  go_roundg (n - (j + 1))
                  case rel => exact ⟨j + 1, by go_num, by omega, rfl, rfl⟩
                  case measure => have := HGJ.out; omega
                obtain rfl : j = n := by omega
                rw [HSP.out] at hlc
                have HLC := Lib.hid hlc
                clear hlc hjn HGJ hj HAT HSP
                obtain rfl : j = 0 := HN0.out
                go_wp2_with (first
                  | (go_at_call 77; refine HLC.out.mono ?_; rintro e wq ⟨rfl, hwq⟩; subst wq)
                  | (go_at_call 78; refine HDI.out.mono ?_; rintro e wq ⟨rfl, hwq⟩; subst wq)
                  | (go_at_call 79; refine HNUM.out.mono ?_; rintro e wq ⟨rfl, hwq⟩; subst wq)
                  | (at_builtin; refine wpList_append_own_at _ rfl _ _ 84 rfl w.heap.size 90 i0 _ 4 40 Tryz.underlying84 hi hz0 hz1 hz2 rfl (by decide) _ _ _ rfl (HO.out.alloc _) ⟨wr.heap.size, 0, none⟩ 1 1 (tokC ⟨3, [c], 0, q⟩) rfl rfl ?c1 ?c2 ?c3 ?c4 ?c5 ?_))
                case c1 => exact World.news_of_block (cs := (tokC ⟨3, [c], 0, q⟩).toArray) (t := 90) (fr := (0, 0)) (heap_alloc_new wr _)
                case c2 => exact tok_one _
                case c3 => unfold maxLen; omega
                case c4 => omega
                case c5 => simp; omega
                intro v' w2 hown' hgrow _ _
                have HO2 := Lib.hid (tok_snocR hown')
                have HB2 := Lib.hid (((HB.out.alloc (by omega) _).grown hgrow (by simp; omega) (fun k hk => (HO.out.lt k hk).1)))
                have hsk := refskip_any l (q + 1) w2 hl hqk
                rw [HS.out, show ((q + 1 : Nat) : Int) = (q : Int) + 1 by omega] at hsk
                have HSK := Lib.hid hsk
                clear hown' hgrow hsk
                go_wp2_with (go_at_call 76; refine HSK.out.mono ?_; rintro e wq ⟨rfl, hwq⟩; subst wq)
                go_roundg (l.length - (q + 1 + s))
                case rel => exact ⟨q + 1 + s, ts ++ [⟨3, [c], 0, q⟩], rfl, hq3, by simp; omega, HO2, HB2, HAL, HST.out, rfl⟩
                case measure => have := HG.out; omega
              · have hc58 : ((c.toNat : Int) == 58) = false := by simp; omega
                by_cases h44 : c.toNat = 44
                · have hc44 : ((c.toNat : Int) == 44) = true := by simp; omega
                  clear h58 hor h44
                  go_wp2_with fail
                  go_loopg [8] n (fun g i wx => LetRel q n wr g i wx)
                  case atStart => exact ⟨0, by go_num, Nat.zero_le _, rfl, rfl⟩
                  case round =>
                  obtain ⟨j, rfl, hj, rfl, hg⟩ := hrel
                  have HGJ := Lib.hid hg
                  clear hg
                  have hlc := refletter_any l (q + j) wr (by omega)
                  rw [show ((q + j : Nat) : Int) = (q : Int) + j by omega] at hlc
                  by_cases hjn : j < n
                  · obtain ⟨hjl, hje⟩ := HAT.out j hjn
                    rw [decide_eq_true hjl, hje] at hlc
                    have HLC := Lib.hid hlc
                    clear hlc
                    go_wp2_with (go_at_call 77; refine HLC.out.mono ?_; rintro e wq ⟨rfl, hwq⟩; subst wq)
                    go_roundg (n - (j + 1))
                    case rel => exact ⟨j + 1, by go_num, by omega, rfl, rfl⟩
                    case measure => have := HGJ.out; omega
                  obtain rfl : j = n := by omega
                  rw [HSP.out] at hlc
                  have HLC := Lib.hid hlc
                  clear hlc hjn HGJ hj HAT HSP
                  obtain rfl : j = 0 := HN0.out
                  go_wp2_with (first
                    | (go_at_call 77; refine HLC.out.mono ?_; rintro e wq ⟨rfl, hwq⟩; subst wq)
                    | (go_at_call 78; refine HDI.out.mono ?_; rintro e wq ⟨rfl, hwq⟩; subst wq)
                    | (go_at_call 79; refine HNUM.out.mono ?_; rintro e wq ⟨rfl, hwq⟩; subst wq)
                    | (at_builtin; refine wpList_append_own_at _ rfl _ _ 84 rfl w.heap.size 90 i0 _ 4 40 Tryz.underlying84 hi hz0 hz1 hz2 rfl (by decide) _ _ _ rfl (HO.out.alloc _) ⟨wr.heap.size, 0, none⟩ 1 1 (tokC ⟨3, [c], 0, q⟩) rfl rfl ?c1 ?c2 ?c3 ?c4 ?c5 ?_))
                  case c1 => exact World.news_of_block (cs := (tokC ⟨3, [c], 0, q⟩).toArray) (t := 90) (fr := (0, 0)) (heap_alloc_new wr _)
                  case c2 => exact tok_one _
                  case c3 => unfold maxLen; omega
                  case c4 => omega
                  case c5 => simp; omega
                  intro v' w2 hown' hgrow _ _
                  have HO2 := Lib.hid (tok_snocR hown')
                  have HB2 := Lib.hid (((HB.out.alloc (by omega) _).grown hgrow (by simp; omega) (fun k hk => (HO.out.lt k hk).1)))
                  have hsk := refskip_any l (q + 1) w2 hl hqk
                  rw [HS.out, show ((q + 1 : Nat) : Int) = (q : Int) + 1 by omega] at hsk
                  have HSK := Lib.hid hsk
                  clear hown' hgrow hsk
                  go_wp2_with (go_at_call 76; refine HSK.out.mono ?_; rintro e wq ⟨rfl, hwq⟩; subst wq)
                  go_roundg (l.length - (q + 1 + s))
                  case rel => exact ⟨q + 1 + s, ts ++ [⟨3, [c], 0, q⟩], rfl, hq3, by simp; omega, HO2, HB2, HAL, HST.out, rfl⟩
                  case measure => have := HG.out; omega
                · have hc44 : ((c.toNat : Int) == 44) = false := by simp; omega
                  have hc59 : ((c.toNat : Int) == 59) = true := by simp; omega
                  clear h58 hor h44
                  go_wp2_with fail
                  go_loopg [8] n (fun g i wx => LetRel q n wr g i wx)
                  case atStart => exact ⟨0, by go_num, Nat.zero_le _, rfl, rfl⟩
                  case round =>
                  obtain ⟨j, rfl, hj, rfl, hg⟩ := hrel
                  have HGJ := Lib.hid hg
                  clear hg
                  have hlc := refletter_any l (q + j) wr (by omega)
                  rw [show ((q + j : Nat) : Int) = (q : Int) + j by omega] at hlc
                  by_cases hjn : j < n
                  · obtain ⟨hjl, hje⟩ := HAT.out j hjn
                    rw [decide_eq_true hjl, hje] at hlc
                    have HLC := Lib.hid hlc
                    clear hlc
                    go_wp2_with (go_at_call 77; refine HLC.out.mono ?_; rintro e wq ⟨rfl, hwq⟩; subst wq)
                    go_roundg (n - (j + 1))
                    case rel => exact ⟨j + 1, by go_num, by omega, rfl, rfl⟩
                    case measure => have := HGJ.out; omega
                  obtain rfl : j = n := by omega
                  rw [HSP.out] at hlc
                  have HLC := Lib.hid hlc
                  clear hlc hjn HGJ hj HAT HSP
                  obtain rfl : j = 0 := HN0.out
                  go_wp2_with (first
                    | (go_at_call 77; refine HLC.out.mono ?_; rintro e wq ⟨rfl, hwq⟩; subst wq)
                    | (go_at_call 78; refine HDI.out.mono ?_; rintro e wq ⟨rfl, hwq⟩; subst wq)
                    | (go_at_call 79; refine HNUM.out.mono ?_; rintro e wq ⟨rfl, hwq⟩; subst wq)
                    | (at_builtin; refine wpList_append_own_at _ rfl _ _ 84 rfl w.heap.size 90 i0 _ 4 40 Tryz.underlying84 hi hz0 hz1 hz2 rfl (by decide) _ _ _ rfl (HO.out.alloc _) ⟨wr.heap.size, 0, none⟩ 1 1 (tokC ⟨3, [c], 0, q⟩) rfl rfl ?c1 ?c2 ?c3 ?c4 ?c5 ?_))
                  case c1 => exact World.news_of_block (cs := (tokC ⟨3, [c], 0, q⟩).toArray) (t := 90) (fr := (0, 0)) (heap_alloc_new wr _)
                  case c2 => exact tok_one _
                  case c3 => unfold maxLen; omega
                  case c4 => omega
                  case c5 => simp; omega
                  intro v' w2 hown' hgrow _ _
                  have HO2 := Lib.hid (tok_snocR hown')
                  have HB2 := Lib.hid (((HB.out.alloc (by omega) _).grown hgrow (by simp; omega) (fun k hk => (HO.out.lt k hk).1)))
                  have hsk := refskip_any l (q + 1) w2 hl hqk
                  rw [HS.out, show ((q + 1 : Nat) : Int) = (q : Int) + 1 by omega] at hsk
                  have HSK := Lib.hid hsk
                  clear hown' hgrow hsk
                  go_wp2_with (go_at_call 76; refine HSK.out.mono ?_; rintro e wq ⟨rfl, hwq⟩; subst wq)
                  go_roundg (l.length - (q + 1 + s))
                  case rel => exact ⟨q + 1 + s, ts ++ [⟨3, [c], 0, q⟩], rfl, hq3, by simp; omega, HO2, HB2, HAL, HST.out, rfl⟩
                  case measure => have := HG.out; omega
            · have hsf : isSign c = false := by simpa using hsg
              have HF := Lib.hid (HBD.out 2 (HTK.out.2.2.2 hsf hlf hdf h45))
              have hor : ¬ (c.toNat = 58 ∨ c.toNat = 44 ∨ c.toNat = 59) := of_decide_eq_false hsf
              have hc58 : ((c.toNat : Int) == 58) = false := by simp; omega
              have hc44 : ((c.toNat : Int) == 44) = false := by simp; omega
              have hc59 : ((c.toNat : Int) == 59) = false := by simp; omega
              clear hor hsf hsg hdf h45 hdm hlf HTK HBD HNX HA
              go_wp2_with fail
              go_loopg [8] n (fun g i wx => LetRel q n wr g i wx)
              case atStart => exact ⟨0, by go_num, Nat.zero_le _, rfl, rfl⟩
              case round =>
              obtain ⟨j, rfl, hj, rfl, hg⟩ := hrel
              have HGJ := Lib.hid hg
              clear hg
              have hlc := refletter_any l (q + j) wr (by omega)
              rw [show ((q + j : Nat) : Int) = (q : Int) + j by omega] at hlc
              by_cases hjn : j < n
              · obtain ⟨hjl, hje⟩ := HAT.out j hjn
                rw [decide_eq_true hjl, hje] at hlc
                have HLC := Lib.hid hlc
                clear hlc
                go_wp2_with (go_at_call 77; refine HLC.out.mono ?_; rintro e wq ⟨rfl, hwq⟩; subst wq)
                go_roundg (n - (j + 1))
                case rel => exact ⟨j + 1, by go_num, by omega, rfl, rfl⟩
                case measure => have := HGJ.out; omega
              obtain rfl : j = n := by omega
              rw [HSP.out] at hlc
              have HLC := Lib.hid hlc
              clear hlc hjn HGJ hj HAT HSP
              obtain rfl : j = 0 := HN0.out
              go_wp2_with (first
                | (go_at_call 77; refine HLC.out.mono ?_; rintro e wq ⟨rfl, hwq⟩; subst wq)
                | (go_at_call 78; refine HDI.out.mono ?_; rintro e wq ⟨rfl, hwq⟩; subst wq)
                | (go_at_call 79; refine HNUM.out.mono ?_; rintro e wq ⟨⟨p, rfl⟩, hwq⟩; subst wq))
              go_ret3
              rw [HF.out]
              exact ⟨rfl, HB.out⟩
      · obtain rfl : q = l.length := by omega
        have HF : Hid (allP l = .ok (ts ++ [⟨4, [], 0, l.length⟩])) := Lib.hid (by rw [HA.out, List.drop_length, scanQ_nil]; rfl)
        clear HA hst hlt
        go_wp2_with (at_builtin; refine wpList_append_own_at _ rfl _ _ 84 rfl w.heap.size 90 i0 _ 4 40 Tryz.underlying84 hi hz0 hz1 hz2 rfl (by decide) _ _ _ rfl (HO.out.alloc _) ⟨wr.heap.size, 0, none⟩ 1 1 (tokC ⟨4, [], 0, l.length⟩) rfl rfl ?c1 ?c2 ?c3 ?c4 ?c5 ?_)
        case c1 => exact World.news_of_block (cs := (tokC ⟨4, [], 0, l.length⟩).toArray) (t := 90) (fr := (0, 0)) (heap_alloc_new wr _)
        case c2 => exact tok_one _
        case c3 => unfold maxLen; omega
        case c4 => omega
        case c5 => simp; omega
        intro v' w2 hown' hgrow _ _
        have HO2 := Lib.hid (tok_snocR hown')
        have HB2 := Lib.hid (((HB.out.alloc (by omega) _).grown hgrow (by simp; omega) (fun k hk => (HO.out.lt k hk).1)))
        clear hown' hgrow
        go_wp2
        go_ret3
        rw [HF.out]
        exact ⟨⟨v', rfl, HO2.out, by simp; omega⟩, HB2.out⟩
end Go.Proofs.YtoahaigfjfeopaaGreatDoor

/- Regions that draw their order, walked in a picked order. Plain lemmas over the model; no program. -/
namespace Go.Proofs.YtoahaigfjfeopaaGreatDoor
open Go.RowKit

section
variable {P : Program} {ops : Array Oper} {Q : Exit → Act → World → Prop} {S : World → Prop}

/-- The operations in the picked order, each with its place and its mark. -/
def pickO (ops : Array Oper) : List (Nat × Bool) → List (Nat × Bool × Oper)
  | [] => []
  | p :: r => match ops[p.1]? with
    | some o => (p.1, p.2, o) :: pickO ops r
    | none => pickO ops r
def msOf (n : Nat) (ord : List (Nat × Bool)) : List Bool := (List.range n).map fun i => ord.contains (i, true)
/-- The picked order serves: each marked operation may be taken first, each other stands alone. -/
def lexOB (ops : Array Oper) : List (Nat × Bool) → Array Bool → Bool
  | [], listed => (Region.ready .any ops listed).isEmpty
  | (k, b) :: m, listed => (if b then (Region.ready .any ops listed).contains k && Region.free .any ops listed k else decide (Region.ready .any ops listed = [k])) && lexOB ops m (listed.setIfInBounds k true)
def wpLexO (P : Program) (ops : Array Oper) (Q : Exit → Act → World → Prop) (S : World → Prop) (ms : List Bool) : List (Nat × Bool × Oper) → Act → World → Prop
  | (_, true, o) :: rest, a, w => S w ∧ ∃ v, YieldsIf P ops S o v a ∧ wpLexO P ops Q S ms rest (a.put o.dst v) w
  | (k, false, o) :: rest, a, w =>
    if Region.wanted o (yielded ops a.tmps) then o.wp P a w (fun a' w' => (mustB ops ms k = true → S w') ∧ wpLexO P ops Q S ms rest a' w') Q ∨ (o.asks P a w ∧ LetsOut Q)
    else (mustB ops ms k = true → S w) ∧ wpLexO P ops Q S ms rest (a.put o.dst undef) w
  | [], a, w => Q .normal a w
theorem wpM_lexO {ms : List Bool} (hsel : Region.noSelect ops = true) (hQ : ∀ c (a : Act) d v w, Q (.panic c) (a.put d v) w → Q (.panic c) a w) :
    ∀ (m : List (Nat × Bool)) (listed : Array Bool) (a : Act) (w : World), (∀ p ∈ m, p.1 < ops.size ∧ (p.2 = true → ms.getD p.1 false = true)) → lexOB ops m listed = true → wpLexO P ops Q S ms (pickO ops m) a w →
      wpM P ops Q S (mustB ops ms) m.length listed a w
  | [], listed, a, w, _, hB, h => ⟨by simpa [lexOB] using hB, h⟩
  | (k, b) :: m, listed, a, w, hm, hB, h => by
    have hk := hm (k, b) (List.mem_cons_self ..)
    have hm' := fun p hp => hm p (List.mem_cons_of_mem _ hp)
    have h0 : ops[k]? = some ops[k] := Array.getElem?_eq_getElem hk.1
    simp only [pickO, h0] at h
    simp only [lexOB, Bool.and_eq_true] at hB
    obtain ⟨hb, hB'⟩ := hB
    cases b with
    | true =>
      simp only [if_true, Bool.and_eq_true] at hb
      obtain ⟨hS, v, hy, hr⟩ := h
      refine wpM_first h0 (Region.noSelect_spec hsel) (fun c a w => hQ c a _ v w) (fun j => ?_) m.length listed a w (Region.free_spec h0 hb.2) (by simpa using hb.1) hy hS (wpM_lexO hsel hQ m _ _ w hm' hB' hr)
      by_cases hmu : mustB ops ms j = true
      · exact .inl hmu
      · refine .inr ?_
        have hmu := Bool.eq_false_iff.2 hmu
        simp only [mustB, Bool.or_eq_false_iff, Bool.not_eq_false', List.all_eq_true, List.mem_range, Bool.or_eq_true, Bool.not_eq_true'] at hmu
        have hk2 := hk.2 rfl
        rcases hmu.2 k hk.1 with h | h
        · rw [hk2] at h; cases h
        · exact h
    | false =>
      simp only [Bool.false_eq_true, if_false, decide_eq_true_eq] at hb
      refine ⟨fun h1 => (by rw [hb] at h1; cases h1), fun i hi => ?_⟩
      rw [hb] at hi
      obtain rfl : i = k := by simpa using hi
      unfold wpOp
      simp only [h0]
      simp only [wpLexO] at h
      split
      · rename_i hw
        rw [if_pos hw] at h
        exact h.imp (Oper.wp_mono (fun a' w' h' => ⟨h'.1, wpM_lexO hsel hQ m _ a' w' hm' hB' h'.2⟩)) id
      · rename_i hw
        rw [if_neg hw] at h
        exact ⟨h.1, wpM_lexO hsel hQ m _ _ w hm' hB' h.2⟩
/-- A region that draws its order, walked in the order 'ord'; the marked ones only read, and may be taken first; S: what they read. -/
theorem wp_region_lexO {id : Nat} {a : Act} {w : World} {l : List Oper} (S : World → Prop) (ord : List (Nat × Bool)) (hm : P.follows .mixedOrders = true)
    (hB : (Region.noSelect l.toArray && (lexOB l.toArray ord (Array.replicate l.length false) && (decide (ord.length = l.length) && ord.all fun p => decide (p.1 < l.length)))) = true)
    (hQ : ∀ c (a : Act) d v w, Q (.panic c) (a.put d v) w → Q (.panic c) a w)
    (h : wpLexO P l.toArray Q S (msOf l.length ord) (pickO l.toArray ord) a { w with drawn := w.drawn + 1 }) : (Code.region id l.toArray true).wp P Q a w := by
  simp only [Bool.and_eq_true, decide_eq_true_eq, List.all_eq_true] at hB
  obtain ⟨h1, h2, h3, h4⟩ := hB
  refine wp_region_any hm (wpAny_of_M (S := S) (must := mustB l.toArray (msOf l.length ord)) _ _ _ _ ?_)
  have := wpM_lexO (S := S) (ms := msOf l.length ord) h1 hQ ord (Array.replicate l.length false) a { w with drawn := w.drawn + 1 } (fun p hp => ⟨by simpa using h4 p hp, fun hp2 => ?_⟩) h2 h
  · rw [h3] at this
    simpa using this
  · have hlt := h4 p hp
    simp only [msOf, List.getD_eq_getElem?_getD, List.getElem?_map, List.getElem?_range hlt, Option.map_some, Option.getD_some]
    rw [List.contains_iff_mem]
    obtain ⟨i, b⟩ := p
    simp only at hp2
    rw [← hp2]; exact hp
/-! ### The steps -/
variable {ms : List Bool} {k : Nat} {o : Oper} {rest : List (Nat × Bool × Oper)} {a : Act} {w : World}
theorem lexO_take {v : Value} (hS : S w) (hg : o.guard = none) (hy : ∀ w', S w' → (execOp a.eval o).run P w' = .ok (.value v) w') (h : ∀ K : Act → World → Prop, (∀ a w, wpLexO P ops Q S ms rest a w → K a w) → K (a.put o.dst v) w) : wpLexO P ops Q S ms ((k, true, o) :: rest) a w :=
  ⟨hS, v, .inl ⟨by simp [Region.wanted, hg], hy⟩, h _ fun _ _ h => h⟩
theorem lexO_step (hg : o.guard = none) (h : ∀ K : Act → World → Prop, (∀ a w, S w → wpLexO P ops Q S ms rest a w → K a w) → o.wp P a w K Q) : wpLexO P ops Q S ms ((k, false, o) :: rest) a w := by
  unfold wpLexO
  rw [if_pos (by simp [Region.wanted, hg])]
  exact .inl (h _ fun a' w' hS h' => ⟨fun _ => hS, h'⟩)
theorem lexO_free (hg : o.guard = none) (hm : mustB ops ms k = false) (h : ∀ K : Act → World → Prop, (∀ a w, wpLexO P ops Q S ms rest a w → K a w) → o.wp P a w K Q) : wpLexO P ops Q S ms ((k, false, o) :: rest) a w := by
  unfold wpLexO
  rw [if_pos (by simp [Region.wanted, hg])]
  exact .inl (h _ fun a' w' h' => ⟨fun h => (by rw [hm] at h; cases h), h'⟩)
theorem lexO_nil (h : Q .normal a w) : wpLexO P ops Q S ms [] a w := h
/-- What is left stands alone, one behind the other, and S is wanted no more: an ordinary list. -/
def restO (ops : Array Oper) (ms : List Bool) : List (Nat × Bool × Oper) → Bool
  | [] => true
  | (k, b, _) :: m => !b && !mustB ops ms k && restO ops ms m
theorem lexO_list : ∀ (l : List (Nat × Bool × Oper)) (a : Act) (w : World), restO ops ms l = true → wpList P ops Q (l.map (·.2.2)) a w → wpLexO P ops Q S ms l a w
  | [], _, _, _, h => h
  | (k, b, o) :: l, a, w, hB, h => by
    simp only [restO, Bool.and_eq_true, Bool.not_eq_true'] at hB
    obtain ⟨⟨rfl, hmu⟩, hB'⟩ := hB
    simp only [wpLexO]
    simp only [List.map_cons, wpList] at h
    split
    · rename_i hw
      rw [if_pos hw] at h
      exact h.imp (Oper.wp_mono fun a' w' h' => ⟨fun h => (by rw [hmu] at h; cases h), lexO_list l a' w' hB' h'⟩) id
    · rename_i hw
      rw [if_neg hw] at h
      exact ⟨fun h => (by rw [hmu] at h; cases h), lexO_list l _ w hB' h⟩
end
end Go.Proofs.YtoahaigfjfeopaaGreatDoor

/- Regions that draw their order, walked by a plan that may part. Plain lemmas over the model; no program. -/
namespace Go.Proofs.YtoahaigfjfeopaaGreatDoor
open Go.RowKit

inductive Plan where
  | done
  | take (k : Nat) (r : Plan)
  | one (k : Nat) (r : Plan)
  | two (i j : Nat) (ri rj : Plan)
section
variable {P : Program} {ops : Array Oper} {Q : Exit → Act → World → Prop} {S : World → Prop}

/-- The plan serves: what is taken first may be; what stands alone does; where two are ready, these two are. -/
def planB (ops : Array Oper) (ms : List Bool) : Plan → Nat → Array Bool → Bool
  | .done, n, listed => decide (n = 0) && (Region.ready .any ops listed).isEmpty
  | .take k r, n + 1, listed => ms.getD k false && ((Region.ready .any ops listed).contains k && Region.free .any ops listed k) && planB ops ms r n (listed.setIfInBounds k true)
  | .one k r, n + 1, listed => decide (k < ops.size) && decide (Region.ready .any ops listed = [k]) && planB ops ms r n (listed.setIfInBounds k true)
  | .two i j ri rj, n + 1, listed => decide (i < ops.size) && decide (j < ops.size) && decide (Region.ready .any ops listed = [i, j]) && planB ops ms ri n (listed.setIfInBounds i true) && planB ops ms rj n (listed.setIfInBounds j true)
  | _, 0, _ => false
/-- One operation, and what follows. -/
def stepP (P : Program) (ops : Array Oper) (Q : Exit → Act → World → Prop) (S : World → Prop) (ms : List Bool) (k : Nat) (o : Oper) (K : Act → World → Prop) (a : Act) (w : World) : Prop :=
  if Region.wanted o (yielded ops a.tmps) then o.wp P a w (fun a' w' => (mustB ops ms k = true → S w') ∧ K a' w') Q ∨ (o.asks P a w ∧ LetsOut Q)
  else (mustB ops ms k = true → S w) ∧ K (a.put o.dst undef) w
def wpPlan (P : Program) (ops : Array Oper) (Q : Exit → Act → World → Prop) (S : World → Prop) (ms : List Bool) : Plan → Act → World → Prop
  | .done, a, w => Q .normal a w
  | .take k r, a, w => ∃ o, ops[k]? = some o ∧ S w ∧ ∃ v, YieldsIf P ops S o v a ∧ wpPlan P ops Q S ms r (a.put o.dst v) w
  | .one k r, a, w => ∃ o, ops[k]? = some o ∧ stepP P ops Q S ms k o (wpPlan P ops Q S ms r) a w
  | .two i j ri rj, a, w => (∃ o, ops[i]? = some o ∧ stepP P ops Q S ms i o (wpPlan P ops Q S ms ri) a w) ∧ (∃ o, ops[j]? = some o ∧ stepP P ops Q S ms j o (wpPlan P ops Q S ms rj) a w)
theorem stepP_op {ms : List Bool} {k : Nat} {o : Oper} {K K' : Act → World → Prop} {a : Act} {w : World} (h0 : ops[k]? = some o) (hK : ∀ a w, K a w → K' a w) (h : stepP P ops Q S ms k o K a w) :
    wpOp P ops Q k (fun a' w' => (mustB ops ms k = true → S w') ∧ K' a' w') a w := by
  unfold wpOp
  simp only [h0]
  unfold stepP at h
  split
  · rename_i hw
    rw [if_pos hw] at h
    exact h.imp (Oper.wp_mono (fun a' w' h' => ⟨h'.1, hK _ _ h'.2⟩)) id
  · rename_i hw
    rw [if_neg hw] at h
    exact ⟨h.1, hK _ _ h.2⟩
theorem wpM_plan {ms : List Bool} (hsel : Region.noSelect ops = true) (hQ : ∀ c (a : Act) d v w, Q (.panic c) (a.put d v) w → Q (.panic c) a w) :
    ∀ (p : Plan) (n : Nat) (listed : Array Bool) (a : Act) (w : World), planB ops ms p n listed = true → wpPlan P ops Q S ms p a w → wpM P ops Q S (mustB ops ms) n listed a w := by
  intro p
  induction p with
  | done =>
    intro n listed a w hB h
    simp only [planB, Bool.and_eq_true, decide_eq_true_eq] at hB
    obtain ⟨rfl, hB⟩ := hB
    exact ⟨by simpa using hB, h⟩
  | take k r ih =>
    intro n listed a w hB h
    cases n with
    | zero => simp [planB] at hB
    | succ n =>
      simp only [planB, Bool.and_eq_true] at hB
      obtain ⟨⟨hm, hr, hf⟩, hB'⟩ := hB
      obtain ⟨o, h0, hS, v, hy, h'⟩ := h
      refine wpM_first h0 (Region.noSelect_spec hsel) (fun c a w => hQ c a o.dst v w) (fun j => ?_) n listed a w (Region.free_spec h0 hf) (by simpa using hr) hy hS (ih n _ _ w hB' h')
      by_cases hmu : mustB ops ms j = true
      · exact .inl hmu
      · refine .inr ?_
        have hmu := Bool.eq_false_iff.2 hmu
        simp only [mustB, Bool.or_eq_false_iff, Bool.not_eq_false', List.all_eq_true, List.mem_range, Bool.or_eq_true, Bool.not_eq_true'] at hmu
        rcases hmu.2 k (Array.getElem?_eq_some_iff.1 h0).1 with h | h
        · rw [hm] at h; cases h
        · exact h
  | one k r ih =>
    intro n listed a w hB h
    cases n with
    | zero => simp [planB] at hB
    | succ n =>
      simp only [planB, Bool.and_eq_true, decide_eq_true_eq] at hB
      obtain ⟨⟨_, hb⟩, hB'⟩ := hB
      obtain ⟨o, h0, h'⟩ := h
      refine ⟨fun h1 => (by rw [hb] at h1; cases h1), fun i hi => ?_⟩
      rw [hb] at hi
      obtain rfl : i = k := by simpa using hi
      exact stepP_op h0 (fun a w h => ih n _ a w hB' h) h'
  | two i j ri rj ihi ihj =>
    intro n listed a w hB h
    cases n with
    | zero => simp [planB] at hB
    | succ n =>
      simp only [planB, Bool.and_eq_true, decide_eq_true_eq] at hB
      obtain ⟨⟨⟨⟨_, _⟩, hb⟩, hBi⟩, hBj⟩ := hB
      obtain ⟨⟨oi, hi0, hi'⟩, ⟨oj, hj0, hj'⟩⟩ := h
      refine ⟨fun h1 => (by rw [hb] at h1; cases h1), fun q hq => ?_⟩
      rw [hb] at hq
      rcases (by simpa using hq : q = i ∨ q = j) with rfl | rfl
      · exact stepP_op hi0 (fun a w h => ihi n _ a w hBi h) hi'
      · exact stepP_op hj0 (fun a w h => ihj n _ a w hBj h) hj'
theorem wp_region_plan {id : Nat} {a : Act} {w : World} {l : List Oper} (S : World → Prop) (ms : List Bool) (p : Plan) (hm : P.follows .mixedOrders = true)
    (hB : (Region.noSelect l.toArray && planB l.toArray ms p l.length (Array.replicate l.length false)) = true)
    (hQ : ∀ c (a : Act) d v w, Q (.panic c) (a.put d v) w → Q (.panic c) a w)
    (h : wpPlan P l.toArray Q S ms p a { w with drawn := w.drawn + 1 }) : (Code.region id l.toArray true).wp P Q a w := by
  simp only [Bool.and_eq_true] at hB
  refine wp_region_any hm (wpAny_of_M (S := S) (must := mustB l.toArray ms) _ _ _ _ ?_)
  have := wpM_plan (S := S) hB.1 hQ p l.length _ a { w with drawn := w.drawn + 1 } hB.2 h
  simpa using this
variable {ms : List Bool} {k : Nat} {o : Oper} {r : Plan} {a : Act} {w : World}
theorem plan_take {v : Value} (h0 : ops[k]? = some o) (hS : S w) (hg : o.guard = none) (hy : ∀ w', S w' → (execOp a.eval o).run P w' = .ok (.value v) w') (h : ∀ K : Act → World → Prop, (∀ a w, wpPlan P ops Q S ms r a w → K a w) → K (a.put o.dst v) w) : wpPlan P ops Q S ms (.take k r) a w :=
  ⟨o, h0, hS, v, .inl ⟨by simp [Region.wanted, hg], hy⟩, h _ fun _ _ h => h⟩
theorem plan_one (h0 : ops[k]? = some o) (hg : o.guard = none) (h : ∀ K : Act → World → Prop, (∀ a w, S w → wpPlan P ops Q S ms r a w → K a w) → o.wp P a w K Q) : wpPlan P ops Q S ms (.one k r) a w := by
  refine ⟨o, h0, ?_⟩
  unfold stepP
  rw [if_pos (by simp [Region.wanted, hg])]
  exact .inl (h _ fun a' w' hS h' => ⟨fun _ => hS, h'⟩)
theorem plan_two {i j : Nat} {ri rj : Plan} (h1 : wpPlan P ops Q S ms (.one i ri) a w) (h2 : wpPlan P ops Q S ms (.one j rj) a w) : wpPlan P ops Q S ms (.two i j ri rj) a w := ⟨h1, h2⟩
theorem plan_done (h : Q .normal a w) : wpPlan P ops Q S ms .done a w := h
/-! Guarded operations in a picked order -/
variable {rest : List (Nat × Bool × Oper)}
theorem lexO_take_on {v : Value} (i : Nat) (b : Bool) (oi : Oper) (d : Nat) (hS : S w) (hg : o.guard = some (i, b)) (hoi : ops[i]? = some oi) (hd : oi.dst = some d) (hv : a.tmps[d]? = some (.bool b))
    (hy : ∀ w', S w' → (execOp a.eval o).run P w' = .ok (.value v) w') (h : ∀ K : Act → World → Prop, (∀ a w, wpLexO P ops Q S ms rest a w → K a w) → K (a.put o.dst v) w) : wpLexO P ops Q S ms ((k, true, o) :: rest) a w :=
  ⟨hS, v, .inl ⟨by simp [Region.wanted, hg, yielded, hoi, hd, hv], hy⟩, h _ fun _ _ h => h⟩
theorem lexO_step_on (i : Nat) (b : Bool) (oi : Oper) (d : Nat) (hg : o.guard = some (i, b)) (hoi : ops[i]? = some oi) (hd : oi.dst = some d) (hv : a.tmps[d]? = some (.bool b))
    (h : ∀ K : Act → World → Prop, (∀ a w, S w → wpLexO P ops Q S ms rest a w → K a w) → o.wp P a w K Q) : wpLexO P ops Q S ms ((k, false, o) :: rest) a w := by
  unfold wpLexO
  rw [if_pos (by simp [Region.wanted, hg, yielded, hoi, hd, hv])]
  exact .inl (h _ fun a' w' hS h' => ⟨fun _ => hS, h'⟩)
end
end Go.Proofs.YtoahaigfjfeopaaGreatDoor

/- arboristref06.parser: fail, next. -/
namespace Go.Proofs.YtoahaigfjfeopaaGreatDoor
open Go.RowKit

/-- The reference's parser's block: all tokens, where it is, what is told so far, what was wrong first. -/
def RB (g : Nat) (w : World) (toks : List Tok) (s : RS) (dv hv sv : Value) : Prop :=
  ∃ A c, w.heap[g]? = some (.cells #[.slice A toks.length c, .int .i64 s.i, dv, hv, sv, .int .i64 s.a, .int .i64 s.e] 89 (0, 0)) ∧ Sl kTok w (· < g) (.slice A toks.length c) toks ∧ s.i < toks.length
theorem RB.lt {g : Nat} {w : World} {toks : List Tok} {s : RS} {dv hv sv : Value} (h : RB g w toks s dv hv sv) : g < w.heap.size := by
  obtain ⟨A, c, h, _⟩ := h; exact lt_of_block h
theorem RB.idx {g : Nat} {w : World} {toks : List Tok} {s : RS} {dv hv sv : Value} (h : RB g w toks s dv hv sv) : s.i < toks.length := by
  obtain ⟨A, c, _, _, h⟩ := h; exact h
theorem RB.chg {g : Nat} {a b : World} {toks : List Tok} {s : RS} {dv hv sv : Value} {S : Nat → Prop} (h : RB g a toks s dv hv sv) (hc : Chg S a b) (hs : ∀ k, k ≤ g → ¬ S k) : RB g b toks s dv hv sv := by
  obtain ⟨A, c, h, hsl, hi⟩ := h
  exact ⟨A, c, hc.heap h (hs g (Nat.le_refl _)), hsl.chg (by decide) hc fun k hk => hs k (Nat.le_of_lt hk), hi⟩
theorem RB.below {g : Nat} {a b : World} {toks : List Tok} {s : RS} {dv hv sv : Value} (h : RB g a toks s dv hv sv) (hb : Below a.heap.size a b) : RB g b toks s dv hv sv := h.chg (chg_of_below hb (fun _ => False)) (fun _ _ h => h)
theorem tok_at {w : World} {ok : Nat → Prop} {A : Option Addr} {n c : Nat} {toks : List Tok} (h : Sl kTok w ok (.slice A n c) toks) {j : Nat} (hj : j < toks.length) :
    ∃ b o, A = some ⟨b, o, none⟩ ∧ ok b ∧ w.cell? ⟨b, o + j * 4, none⟩ = some (.int .i64 (nth default toks j).kind) ∧ w.cell? ⟨b, o + j * 4 + 1, none⟩ = some (.string ⟨(nth default toks j).text.toArray⟩) ∧ w.cell? ⟨b, o + j * 4 + 2, none⟩ = some (.int .i64 (nth default toks j).n) ∧ w.cell? ⟨b, o + j * 4 + 3, none⟩ = some (.int .i64 (nth default toks j).at_) := by
  obtain ⟨A', c', he, hc, hm, hA⟩ := h
  injection he with h1 h2 h3
  subst h1 h2 h3
  obtain ⟨b, o, cs, rfl, hb, hk, hcs⟩ := hA j (nth default toks j) (nth_get default toks j hj)
  obtain ⟨_, _, rfl, rfl, ⟨_, _, rfl, rfl, ⟨_, _, rfl, rfl, rfl⟩⟩⟩ := hk
  have hsz : kTok.sz = 4 := rfl
  rw [hsz] at hcs
  refine ⟨b, o, rfl, hb, ?_, ?_, ?_, ?_⟩
  · exact hcs 0 _ rfl
  · exact hcs 1 _ rfl
  · exact hcs 2 _ rfl
  · exact hcs 3 _ rfl
section
variable {g : Nat} {w : World} {toks : List Tok} {s : RS} {dv hv sv : Value}
theorem RB.setE (h : RB g w toks s dv hv sv) (a e : Int) : RB g ((w.setCell ⟨g, 5, none⟩ (.int .i64 a)).setCell ⟨g, 6, none⟩ (.int .i64 e)) toks ⟨s.i, a, e⟩ dv hv sv := by
  obtain ⟨A, c, h, hs, hi⟩ := h
  refine ⟨A, c, by simp [World.setCell, Array.getElem?_modify, h], ?_, hi⟩
  exact (hs.chg (by decide) (chg_setCell w g 5 _) (fun k hk e => by have : k < g := hk; omega)).chg (by decide) (chg_setCell _ g 6 _) (fun k hk e => by have : k < g := hk; omega)
theorem RB.setI (h : RB g w toks s dv hv sv) (i : Nat) (hi' : i < toks.length) : RB g (w.setCell ⟨g, 1, none⟩ (.int .i64 i)) toks ⟨i, s.a, s.e⟩ dv hv sv := by
  obtain ⟨A, c, h, hs, hi⟩ := h
  exact ⟨A, c, by simp [World.setCell, Array.getElem?_modify, h], hs.chg (by decide) (chg_setCell w g 1 _) (fun k hk e => by have : k < g := hk; omega), hi'⟩
end
set_option maxHeartbeats 1000000 in
theorem fail_r (g : Nat) (w : World) (toks : List Tok) (s : RS) (dv hv sv : Value) (j : Nat) (x : Int) (h : RB g w toks s dv hv sv) (hj : j < toks.length) :
    Calls Tryz.prog 80 #[.pointer (some ⟨g, 0, none⟩), .int .i64 j, .int .i64 x] w fun e w' => e = .returned (.tuple #[]) ∧ RB g w' toks (failF toks j x s) dv hv sv ∧ Chg (fun k => k = g) w w' := by
  have H := Lib.hid h
  obtain ⟨A, c, hg, hs, hi⟩ := h
  have hgw := lt_of_block hg
  have hnc : toks.length ≤ 140737488355328 := by obtain ⟨_, _, _, _, hm, _⟩ := hs; exact hm
  have p0 : w.cell? ⟨g, 0, none⟩ = some (.slice A toks.length c) := cell_at hg (i := 0) rfl
  have p1 : w.cell? ⟨g, 1, none⟩ = some (.int .i64 s.i) := cell_at hg (i := 1) rfl
  have p5 : w.cell? ⟨g, 5, none⟩ = some (.int .i64 s.a) := cell_at hg (i := 5) rfl
  have p6 : w.cell? ⟨g, 6, none⟩ = some (.int .i64 s.e) := cell_at hg (i := 6) rfl
  by_cases he : s.e = 0
  · have HF := Lib.hid (fail_ok (toks := toks) j x he)
    obtain ⟨b, o, rfl, hb, c0, c1, c2, c3⟩ := tok_at hs hj
    have f5 := Lib.frozen_of_heap hg 5
    have f6 := Lib.frozen_of_heap hg 6
    have hbg : ¬ b = g := by omega
    have hbw : b < w.heap.size := by omega
    have hee : (s.e == 0) = true := by simp [he]
    clear he hg hs hi c0 c1 c2
    go_enter Tryz.func80, Tryz.ntmps80
    go_wp2
    go_end0
    refine ⟨rfl, by rw [HF.out]; exact H.out.setE _ _, ?_⟩
    exact (chg_setCell w g 5 _).trans (chg_setCell _ g 6 _) (fun _ _ h => h)
  · have HF := Lib.hid (fail_no (toks := toks) j x he)
    have hee : (s.e == 0) = false := by simp [he]
    clear he hg hs hi
    go_enter Tryz.func80, Tryz.ntmps80
    go_wp2
    go_end0
    exact ⟨rfl, by rw [HF.out]; exact H.out, Chg.refl _ _⟩
theorem next_ok {toks : List Tok} {s : RS} (h : s.i + 1 < toks.length) : nextF toks s = ⟨s.i + 1, s.a, s.e⟩ := by rw [nextF, if_pos h]
theorem next_no {toks : List Tok} {s : RS} (h : ¬ s.i + 1 < toks.length) : nextF toks s = s := by rw [nextF, if_neg h]
end Go.Proofs.YtoahaigfjfeopaaGreatDoor

/- arboristref06.parser: next, is, sign, number. -/
namespace Go.Proofs.YtoahaigfjfeopaaGreatDoor
open Go.RowKit
attribute [local irreducible] wpStill wpLex wpLexO wpPlan Calls

/-- A struct stored by a region's last operation. -/
theorem lexO_store {P : Program} {ops : Array Oper} {Q : Exit → Act → World → Prop} {S : World → Prop} {ms : List Bool} {k : Nat} {o : Oper} {a : Act} {w : World} (hgd : o.guard = none) (hm : mustB ops ms k = false) (hd : o.dst = none) (ty : TypeId) (x y : Operand) (ho : o.op = .store ty x y)
    (g : Nat) (cells : Array Value) (hx : a.eval x = .pointer (some ⟨g, 0, none⟩)) (hy : a.eval y = .agg cells)
    (t : TypeId) (old : Array Value) (hg : w.heap[g]? = some (.cells old t (0, 0))) (hi : (P.info? ty).map (·.size) = some cells.size)
    (hold : old.size = cells.size) (h1 : cells.all (·.oneCell') = true)
    (h : ∀ W, W.heap[g]? = some (.cells cells t (0, 0)) → w.grownBy W (some g) → Q .normal a W) : wpLexO P ops Q S ms [(k, false, o)] a w := by
  refine lexO_list [(k, false, o)] a w (by simp [restO, hm]) ?_
  refine wpList_store_abs hgd ty x y ho g cells hx hy t old hg hi hold h1 ?_
  intro W h1 h2
  show wpList P ops Q [] (a.put o.dst undef) W
  rw [hd]
  exact h W h1 h2
set_option maxHeartbeats 1000000 in
theorem next_r (g : Nat) (w : World) (toks : List Tok) (s : RS) (dv hv sv : Value) (h : RB g w toks s dv hv sv) :
    Calls Tryz.prog 81 #[.pointer (some ⟨g, 0, none⟩)] w fun e w' => e = .returned (.tuple #[]) ∧ RB g w' toks (nextF toks s) dv hv sv ∧ Chg (fun k => k = g) w w' := by
  have H := Lib.hid h
  obtain ⟨A, c, hg, hs, hi⟩ := h
  have hgw := lt_of_block hg
  have hnc : toks.length ≤ 140737488355328 := by obtain ⟨_, _, _, _, hm, _⟩ := hs; exact hm
  have p0 : w.cell? ⟨g, 0, none⟩ = some (.slice A toks.length c) := cell_at hg (i := 0) rfl
  have p1 : w.cell? ⟨g, 1, none⟩ = some (.int .i64 s.i) := cell_at hg (i := 1) rfl
  have p5 : w.cell? ⟨g, 5, none⟩ = some (.int .i64 s.a) := cell_at hg (i := 5) rfl
  have p6 : w.cell? ⟨g, 6, none⟩ = some (.int .i64 s.e) := cell_at hg (i := 6) rfl
  have f1 := Lib.frozen_of_heap hg 1
  by_cases he : s.i + 1 < toks.length
  · have HF := Lib.hid (next_ok he)
    have HE := Lib.hid he
    have hd : decide ((s.i : Int) + 1 < toks.length) = true := decide_eq_true (by omega)
    clear he hg hs
    go_enter Tryz.func81, Tryz.ntmps81
    go_wp2
    go_quiet (fail)
    go_wp2
    go_end0
    have hdr := below_drewN (Below.refl w.heap.size w) nq
    refine ⟨rfl, by rw [HF.out]; exact (H.out.below hdr).setI (s.i + 1) HE.out, ?_⟩
    exact (chg_of_below hdr _).trans (chg_setCell _ g 1 _) (fun _ _ h => h)
  · have HF := Lib.hid (next_no he)
    have hd : decide ((s.i : Int) + 1 < toks.length) = false := decide_eq_false (by omega)
    clear he hg hs
    go_enter Tryz.func81, Tryz.ntmps81
    go_wp2
    go_quiet (fail)
    go_wp2
    go_end0
    have hdr := below_drewN (Below.refl w.heap.size w) nq
    exact ⟨rfl, by rw [HF.out]; exact H.out.below hdr, chg_of_below hdr _⟩
theorem bytes_eqF (a b : List UInt8) : ((ByteArray.mk a.toArray).toList == (ByteArray.mk b.toArray).toList) = decide (a = b) := by
  rw [ByteArray.toList_eq, ByteArray.toList_eq]
  by_cases h : a = b <;> simp [h]
abbrev tokZR : Obj := .cells #[.int .i64 0, .string ⟨#[]⟩, .int .i64 0, .int .i64 0] 90
set_option maxHeartbeats 2000000 in
theorem is_r (g : Nat) (w : World) (toks : List Tok) (s : RS) (dv hv sv : Value) (str : List UInt8) (h : RB g w toks s dv hv sv) :
    Calls Tryz.prog 107 #[.pointer (some ⟨g, 0, none⟩), .string ⟨str.toArray⟩] w fun e w' => e = .returned (.bool (isF toks str s)) ∧ Below w.heap.size w w' := by
  have H := Lib.hid h
  obtain ⟨A, c, hg, hs, hi⟩ := h
  have hgw := lt_of_block hg
  have hnc : toks.length ≤ 140737488355328 := by obtain ⟨_, _, _, _, hm, _⟩ := hs; exact hm
  have p0 : w.cell? ⟨g, 0, none⟩ = some (.slice A toks.length c) := cell_at hg (i := 0) rfl
  have p1 : w.cell? ⟨g, 1, none⟩ = some (.int .i64 s.i) := cell_at hg (i := 1) rfl
  have p5 : w.cell? ⟨g, 5, none⟩ = some (.int .i64 s.a) := cell_at hg (i := 5) rfl
  have p6 : w.cell? ⟨g, 6, none⟩ = some (.int .i64 s.e) := cell_at hg (i := 6) rfl
  have HP : Hid (isF toks str s = if str = [] then decide ((tkF toks s).kind = 2) else decide ((tkF toks s).kind ≠ 2) && decide ((tkF toks s).text = str)) := Lib.hid rfl
  have hb2 := below_next (Below.drew (Below.refl w.heap.size w)) (below_alloc1 (World.drew w) (.cells #[.int .i64 0, .string ⟨#[]⟩, .int .i64 0, .int .i64 0] 90))
  obtain ⟨b, o, rfl, hb, c0, c1, c2, c3⟩ := tok_at hs hi
  change w.cell? ⟨b, o + s.i * 4, none⟩ = some (.int .i64 (tkF toks s).kind) at c0
  change w.cell? ⟨b, o + s.i * 4 + 1, none⟩ = some (.string ⟨(tkF toks s).text.toArray⟩) at c1
  change w.cell? ⟨b, o + s.i * 4 + 2, none⟩ = some (.int .i64 (tkF toks s).n) at c2
  change w.cell? ⟨b, o + s.i * 4 + 3, none⟩ = some (.int .i64 (tkF toks s).at_) at c3
  generalize tkF toks s = t at *
  clear hg hs p5 p6
  go_enter Tryz.func107, Tryz.ntmps107
  go_upto_region 1 with fail
  refine wp_region_lexO (fun w' => w'.cell? ⟨g, 0, none⟩ = some (.slice (some ⟨b, o, none⟩) toks.length c) ∧ w'.cell? ⟨g, 1, none⟩ = some (.int .i64 s.i) ∧ w'.cell? ⟨b, o + s.i * 4, none⟩ = some (.int .i64 t.kind) ∧ w'.cell? ⟨b, o + s.i * 4 + 1, none⟩ = some (.string ⟨t.text.toArray⟩) ∧ w'.cell? ⟨b, o + s.i * 4 + 2, none⟩ = some (.int .i64 t.n) ∧ w'.cell? ⟨b, o + s.i * 4 + 3, none⟩ = some (.int .i64 t.at_)) [(0, true), (1, true), (2, true), (3, true), (4, true), (5, true), (6, true), (7, true), (8, true), (9, true), (10, false), (11, false)] (by kernel_rfl) (by kernel_rfl) (fun c a d v w h => by cases d <;> exact h) ?_
  change wpLexO _ _ _ _ _ _ _ (World.drew w)
  have hdr := Below.drew (Below.refl w.heap.size w)
  have p0 := cell_kept hdr p0
  have p1 := cell_kept hdr p1
  have c0 := cell_kept hdr c0
  have c1 := cell_kept hdr c1
  have c2 := cell_kept hdr c2
  have c3 := cell_kept hdr c3
  have HB2 := Lib.hid hb2
  have hWZ : w.heap.size ≤ (World.drew w).heap.size := hdr.size
  clear hdr hb2
  generalize World.drew w = W at *
  repeat (first | (refine lexO_take ⟨p0, p1, c0, c1, c2, c3⟩ rfl (fun w' hw' => by (obtain ⟨q0, q1, d0, d1, d2, d3⟩ := hw'; (try go_simp); try rfl)) (fun K hK => ?_); go_simp; refine hK _ _ ?_; clear hK K))
  refine lexO_step rfl (fun K hK => ?_)
  go_wp2_with fail
  have hal := below_alloc1 W (.cells #[.int .i64 0, .string ⟨#[]⟩, .int .i64 0, .int .i64 0] 90)
  have HX := Lib.hid (heap_alloc_new W (.cells #[.int .i64 0, .string ⟨#[]⟩, .int .i64 0, .int .i64 0] 90))
  have HWZ : Hid (w.heap.size ≤ W.heap.size) := Lib.hid hWZ
  refine hK _ _ ⟨cell_kept hal p0, cell_kept hal p1, cell_kept hal c0, cell_kept hal c1, cell_kept hal c2, cell_kept hal c3⟩ ?_
  clear hK K hal hWZ
  generalize W.alloc (.cells #[.int .i64 0, .string ⟨#[]⟩, .int .i64 0, .int .i64 0] 90) = W4 at *
  refine lexO_store rfl (by kernel_rfl) rfl 90 _ _ rfl W.heap.size #[.int .i64 t.kind, .string ⟨t.text.toArray⟩, .int .i64 t.n, .int .i64 t.at_] rfl rfl 90 _ HX.out (by kernel_rfl) rfl (by simp [Value.oneCell']) ?_
  intro W5 hW5 hg5
  have HB5 := Lib.hid (Below.grownAt HB2.out hg5 HB2.out.size HWZ.out)
  have x0 : W5.cell? ⟨W.heap.size, 0, none⟩ = some (.int .i64 t.kind) := cell_at hW5 (i := 0) rfl
  have x1 : W5.cell? ⟨W.heap.size, 1, none⟩ = some (.string ⟨t.text.toArray⟩) := cell_at hW5 (i := 1) rfl
  clear hW5 hg5 HX HWZ HB2 p0 p1 c0 c1 c2 c3
  by_cases hne : str = []
  · subst hne
    have HR : Hid (isF toks [] s = (t.kind == 2)) := Lib.hid (by rw [HP.out, if_pos rfl]; rfl)
    clear HP
    go_wp2
    go_ret
    exact ⟨ret_bool (by rw [HR.out]), HB5.out⟩
  · rw [if_neg hne] at HP
    have hse : (ByteArray.mk str.toArray).toList.isEmpty = false := by rw [ByteArray.toList_eq]; simpa using hne
    have hbe := bytes_eqF t.text str
    clear hne
    generalize (ByteArray.mk str.toArray) = sb at *
    generalize (ByteArray.mk t.text.toArray) = tb at *
    by_cases hk : t.kind = 2
    · have hk1 : (t.kind != 2) = false := by simp [hk]
      have HR : Hid (isF toks str s = false) := Lib.hid (by rw [HP.out]; simp [hk])
      clear HP hk
      go_wp2
      go_ret
      exact ⟨ret_bool HR.out.symm, HB5.out⟩
    · have hk1 : (t.kind != 2) = true := by simp [hk]
      have HR : Hid (isF toks str s = (tb.toList == sb.toList)) := Lib.hid (by rw [HP.out, hbe]; simp [hk])
      clear HP hk hbe
      go_wp2
      go_ret
      exact ⟨ret_bool HR.out.symm, HB5.out⟩
end Go.Proofs.YtoahaigfjfeopaaGreatDoor

/- arboristref06.Right: its parts. -/
namespace Go.Proofs.YtoahaigfjfeopaaGreatDoor
open Go.RowKit
attribute [local irreducible] wpStill wpLex Calls

theorem refrising_any (v : Value) (xs : List Int) (ok : Nat → Prop) (w : World) (h1 : Sl (Kd.int .i64) w ok v xs) :
    Calls Tryz.prog 22 #[v] w fun e w' => e = .returned (.bool (risingB xs)) ∧ ∃ n, w' = w.drewN n := by
  obtain ⟨A, c, rfl, hc, hm, hA⟩ := h1
  go_enter Tryz.func22, Tryz.ntmps22
  go_wp2
  go_loopw [3] (fun i wr => ∃ k : Nat, i = .int .i64 (k + 1) ∧ Hid (risingB xs = risingB (xs.drop k)) ∧ (k ≤ xs.length) ∧ ∃ n, wr = w.drewN n) (fun i _ => xs.length - (intOf i).toNat)
  case atStart => exact ⟨0, rfl, Lib.hid rfl, by omega, 0, rfl⟩
  case round =>
    obtain ⟨k, rfl, H, hk, nd, rfl⟩ := hrel
    by_cases hlt : k + 1 < xs.length
    · obtain ⟨b, o, rfl, c1⟩ := hA.num (j := k) (by omega)
      obtain ⟨b', o', he, c2⟩ := hA.num hlt
      injection he with he
      injection he with he1 he2
      subst he1 he2
      have H' := Lib.hid (risingB_drop xs k hlt)
      have h1 : IntKind.i64.wrap ((k:Int) + 1 - 1) = k := by rw [show (k:Int) + 1 - 1 = k from by omega]; exact IntWalk.i64_in _ (by omega)
      have h2 : ((k:Int) + 1).toNat = k + 1 := by omega
      clear hA
      by_cases h : nth 0 xs (k + 1) ≤ nth 0 xs k
      · go_wp2
        go_quiet (fail)
        go_wp2
        go_ret
        exact ⟨ret_bool (by rw [H.out, H'.out]; simp; omega), by first | exact ⟨_, rfl⟩ | exact ⟨_, World.drewN_drewN ..⟩⟩
      · go_wp2
        go_quiet (fail)
        go_wp2
        go_roundw
        case rel => exact ⟨k + 1, by go_num, Lib.hid (by rw [H.out, H'.out]; simp; omega), by omega, _, rfl⟩
        case measure => simp [intOf]; omega
    · go_wp2
      go_ret
      exact ⟨ret_bool (by rw [H.out, risingB_last xs k (by omega)]), _, rfl⟩
theorem refsmall_any (n m : Int) (w : World) (h3 : 0 ≤ m) (h4 : m ≤ 9223372036854775807) :
    Calls Tryz.prog 23 #[.int .i64 n, .int .i64 m] w fun e w' => e = .returned (.bool (smallB n m)) ∧ w = w' := by
  by_cases h : -m ≤ n
  · go_enter Tryz.func23, Tryz.ntmps23
    go_wp2
    go_ret
    exact ⟨by simp [smallB, h], rfl⟩
  · go_enter Tryz.func23, Tryz.ntmps23
    go_wp2
    go_ret
    exact ⟨by simp [smallB]; omega, rfl⟩
theorem refin_any (v : Value) (xs : List Int) (x : Int) (ok : Nat → Prop) (w : World) (h1 : Sl (Kd.int .i64) w ok v xs) :
    Calls Tryz.prog 88 #[v, .int .i64 x] w fun e w' => e = .returned (.bool (decide (x ∈ xs))) ∧ w = w' := by
  obtain ⟨A, c, rfl, hc, hm, hA⟩ := h1
  go_enter Tryz.func88, Tryz.ntmps88
  go_wp2
  go_loop [5] (fun i => ∃ k : Nat, i = .int .i64 k ∧ k ≤ xs.length ∧ Hid (decide (x ∈ xs) = decide (x ∈ xs.drop k))) (fun i => xs.length - (intOf i).toNat)
  case atStart => exact ⟨0, rfl, by omega, Lib.hid rfl⟩
  case round =>
    obtain ⟨k, rfl, hk, H⟩ := hrel
    by_cases hlt : k < xs.length
    · obtain ⟨b, o, rfl, c1⟩ := hA.num hlt
      have H' : Hid (decide (x ∈ xs.drop k) = (decide (x = nth 0 xs k) || decide (x ∈ xs.drop (k + 1)))) := Lib.hid (by rw [drop_cons xs 0 k hlt]; simp)
      clear hA
      by_cases he : nth 0 xs k = x
      · have hb : (nth 0 xs k == x) = true := by simp [he]
        have HE := Lib.hid he
        clear he
        go_wp2
        go_ret
        exact ⟨ret_bool (by rw [H.out, H'.out, HE.out]; simp), rfl⟩
      · have hb : (nth 0 xs k == x) = false := by simp [he]
        have HE := Lib.hid he
        clear he
        go_wp2
        go_round
        case rel => exact ⟨k + 1, by go_num, by omega, Lib.hid (by rw [H.out, H'.out, decide_eq_false (fun e => HE.out e.symm), Bool.false_or])⟩
        case measure => simp [intOf]; omega
    · go_wp2
      go_ret
      exact ⟨ret_bool (by rw [H.out, List.drop_eq_nil_of_le (by omega)]; simp), rfl⟩
theorem refscope_any (vD vH vS v : Value) (doms : List (List Int)) (xs : List Int) (ok : Nat → Prop) (w : World) (hD : Sl kRow w ok vD doms) (h1 : Sl (Kd.int .i64) w ok v xs) :
    Calls Tryz.prog 49 #[.agg #[vD, vH, vS], v] w fun e w' => e = .returned (.bool (scopeB doms.length xs)) ∧ Below w.heap.size w w' := by
  obtain ⟨A', c', rfl, hc', hm', hA'⟩ := hD
  have H := Sl.below (by decide) h1 (below_alloc1 w (.cells #[.slice A' doms.length c', vH, vS] 26))
  have HB := below_alloc1 w (.cells #[.slice A' doms.length c', vH, vS] 26)
  have HX := heap_alloc_new w (.cells #[.slice A' doms.length c', vH, vS] 26)
  obtain ⟨A, c, rfl, hc, hm, hA⟩ := h1
  have hA := Sl.elems H
  have HR := Lib.hid (refrising_any _ _ _ _ H)
  by_cases h0 : 0 < xs.length
  · by_cases h6 : xs.length ≤ 6
    · obtain ⟨b, o, rfl, c0⟩ := hA.num h0
      obtain ⟨b', o', he, c1⟩ := hA.num (j := xs.length - 1) (by omega)
      injection he with he
      injection he with he1 he2
      subst he1 he2
      simp only [Nat.add_zero] at c0
      have hs0 : IntKind.i64.wrap ((xs.length:Int) - 1) = (xs.length:Int) - 1 := IntWalk.i64_in _ (by omega)
      have hs1 : ((xs.length:Int) - 1).toNat = xs.length - 1 := by omega
      have hs2 : ¬ xs.length < 1 := by omega
      clear hA hA' H
      cases hr : risingB xs
      · rw [hr] at HR
        have hrh := Lib.hid hr
        clear hr c0 c1 HX
        go_enter Tryz.func49, Tryz.ntmps49
        go_wp2_with (go_at_call 22; refine HR.out.mono ?_; rintro e w1 ⟨rfl, n, rfl⟩)
        go_ret
        exact ⟨ret_bool (by simp [scopeB, hrh.out]), below_drewN HB _⟩
      · rw [hr] at HR
        have hrh := Lib.hid hr
        have x0 := cell_at HX (i := 0) rfl
        clear hr HX
        by_cases h00 : 0 ≤ nth 0 xs 0
        · go_enter Tryz.func49, Tryz.ntmps49
          go_wp2_with (go_at_call 22; refine HR.out.mono ?_; rintro e w1 ⟨rfl, n, rfl⟩)
          go_quiet (fail)
          go_wp2
          go_ret
          exact ⟨ret_bool (by simp [scopeB, hrh.out, h00, h6, h0]), below_drewN (below_drewN HB _) _⟩
        · have hd0 : decide (0 ≤ nth 0 xs 0) = false := decide_eq_false h00
          go_enter Tryz.func49, Tryz.ntmps49
          go_wp2_with (go_at_call 22; refine HR.out.mono ?_; rintro e w1 ⟨rfl, n, rfl⟩)
          go_quiet (fail)
          go_wp2
          go_ret
          exact ⟨ret_bool (by simp [scopeB, hrh.out]; intros; omega), below_drewN (below_drewN HB _) _⟩
    · have hs2 : ¬ xs.length < 1 := by omega
      clear hA hA' H HX HR
      go_enter Tryz.func49, Tryz.ntmps49
      go_wp2
      go_ret
      exact ⟨ret_bool (by simp [scopeB, h6]), HB⟩
  · have hs2 : xs.length < 1 := by omega
    clear hA hA' H HX HR
    go_enter Tryz.func49, Tryz.ntmps49
    go_wp2
    go_ret
    exact ⟨ret_bool (by simp [scopeB, h0]), HB⟩
theorem rowsB_pos (doms : List (List Int)) (scope : List Int) (rows : List (List Int)) (k : Nat) (hk : 0 < k) (h : k < rows.length) :
    rowsB doms scope (ahead rows k) (rows.drop k) = (decide ((nth [] rows k).length = scope.length) && decide (cmpL (nth [] rows (k - 1)) (nth [] rows k) < 0) && inDoms doms scope (nth [] rows k) && rowsB doms scope (ahead rows (k + 1)) (rows.drop (k + 1))) := by
  obtain ⟨j, rfl⟩ : ∃ j, k = j + 1 := ⟨k - 1, by omega⟩
  exact rowsB_drop doms scope rows (j + 1) h
theorem rowsB_nul (doms : List (List Int)) (scope : List Int) (rows : List (List Int)) (h : 0 < rows.length) :
    rowsB doms scope (ahead rows 0) (rows.drop 0) = (decide ((nth [] rows 0).length = scope.length) && true && inDoms doms scope (nth [] rows 0) && rowsB doms scope (ahead rows 1) (rows.drop 1)) :=
  rowsB_drop doms scope rows 0 h
set_option maxRecDepth 100000 in
set_option maxHeartbeats 4000000 in
theorem refrows_any (vD vH vS vs v : Value) (doms : List (List Int)) (scope : List Int) (rows : List (List Int)) (ok : Nat → Prop) (w : World) (hD : Sl kRow w ok vD doms) (hs : Sl (Kd.int .i64) w ok vs scope) (hr : Sl kRow w ok v rows)
    (hsc : ∀ k, k < scope.length → 0 ≤ nth 0 scope k ∧ nth 0 scope k < doms.length) :
    Calls Tryz.prog 50 #[.agg #[vD, vH, vS], vs, v] w fun e w' => e = .returned (.bool (rowsB doms scope none rows)) ∧ Below w.heap.size w w' := by
  obtain ⟨AD, cD, rfl, hcD, hmD, hAD⟩ := hD
  have HB := Lib.hid (below_alloc1 w (.cells #[.slice AD doms.length cD, vH, vS] 26))
  have HX := Lib.hid (heap_alloc_new w (.cells #[.slice AD doms.length cD, vH, vS] 26))
  have HD := Lib.hid (Sl.below (v := .slice AD doms.length cD) (xs := doms) (by decide) ⟨AD, cD, rfl, hcD, hmD, hAD⟩ HB.out)
  clear hAD
  obtain ⟨As, cs, rfl, hcs, hms, hAs⟩ := hs
  have HS := Lib.hid (Sl.below (v := .slice As scope.length cs) (xs := scope) (by decide) ⟨As, cs, rfl, hcs, hms, hAs⟩ HB.out)
  clear hAs
  obtain ⟨A, c, rfl, hc, hm, hA⟩ := hr
  have HR := Lib.hid (Sl.below (v := .slice A rows.length c) (xs := rows) (by decide) ⟨A, c, rfl, hc, hm, hA⟩ HB.out)
  clear hA
  have hsc' := Lib.hid hsc
  clear hsc
  go_enter Tryz.func50, Tryz.ntmps50
  go_wp2_with fail
  generalize w.alloc (.cells #[.slice AD doms.length cD, vH, vS] 26) = W0 at *
  go_loopw [7, 8, 9] (fun i _ _ wr => ∃ k : Nat, i = .int .i64 k ∧ k ≤ rows.length ∧ Hid (rowsB doms scope none rows = rowsB doms scope (ahead rows k) (rows.drop k)) ∧ Hid (Below W0.heap.size W0 wr)) (fun i _ _ _ => rows.length - (intOf i).toNat)
  case atStart => exact ⟨0, rfl, by omega, Lib.hid rfl, Lib.hid (Below.refl _ _)⟩
  case round =>
    obtain ⟨k, rfl, hk, H, HW⟩ := hrel
    by_cases hkl : k < rows.length
    · obtain ⟨b, o, vt, rfl, c1, ht⟩ := HR.out.elems.row hkl
      have HT := Lib.hid ht
      obtain ⟨At, ct, rfl, hct, hmt, _⟩ := ht
      have HWD := Lib.hid (below_next HW.out (Below.drew (Below.refl _ _)))
      have c0 := c1
      have c1 := cell_kept HWD.out c1
      by_cases hlen : (nth [] rows k).length = scope.length
      · have hb : (((nth [] rows k).length : Int) != scope.length) = false := by simp; omega
        have HLEN := Lib.hid hlen
        have hlen2 : scope.length ≤ (nth [] rows k).length := by omega
        clear hlen
        by_cases hpos : 0 < k
        · obtain ⟨b', o', vp, he, c2, hp⟩ := HR.out.elems.row (j := k - 1) (by omega)
          injection he with he
          injection he with he1 he2
          subst he1 he2
          have hs0 : IntKind.i64.wrap ((k:Int) - 1) = (k:Int) - 1 := IntWalk.i64_in _ (by omega)
          have hs1 : ((k:Int) - 1).toNat = k - 1 := by omega
          have hi1 : (1 : Int) ≤ (k : Int) := by omega
          have hi2 : (k : Int) - 1 < rows.length := by omega
          have c2 := cell_kept HWD.out c2
          have HP := Lib.hid hp
          obtain ⟨Ap, cp, rfl, _, _, _⟩ := hp
          have hcp := Lib.hid (refcmp_any (.slice Ap (nth [] rows (k - 1)).length cp) (.slice At (nth [] rows k).length ct) _ _ ok _ (HP.out.below (by decide) HWD.out) (HT.out.below (by decide) HWD.out))
          by_cases hcmp : cmpL (nth [] rows (k - 1)) (nth [] rows k) < 0
          · have Hx : Hid (rowsB doms scope none rows = (inDoms doms scope (nth [] rows k) && rowsB doms scope (ahead rows (k + 1)) (rows.drop (k + 1)))) := by
              apply Lib.hid; rw [H.out, rowsB_pos doms scope rows k hpos hkl, decide_eq_true hcmp, HLEN.out]; simp only [decide_true, Bool.true_and]
            clear H
            go_wp2_with fail
            refine wp_region_still_tail 21 (by kernel_rfl) (by kernel_rfl) ?_
            change wpStill _ _ (World.drew wr) (fun a' => wpList _ _ _ _ a' (World.drew wr)) _ _
            generalize World.drew wr = W at *
            simp only [List.take_succ_cons, List.take_zero, List.drop_succ_cons, List.drop_zero]
            repeat (first | (refine still_plain rfl (fun K hK => ?_); go_simp; refine hK _ ?_; clear hK K) | (refine still_off _ _ _ _ _ rfl rfl rfl rfl rfl (fun K hK => ?_); go_simp; refine hK _ ?_; clear hK K) | (refine still_on _ _ _ _ rfl rfl rfl rfl (fun K hK => ?_); go_simp; refine hK _ ?_; clear hK K) | (refine still_dead _ _ _ _ rfl rfl rfl rfl (fun K hK => ?_); go_simp; refine hK _ ?_; clear hK K))
            refine wpStill_nil ?_
            go_wp2_with (go_at_call 66; refine hcp.out.mono ?_; rintro e w2 ⟨rfl, n, rfl⟩)
            have HW2 := Lib.hid (below_drewN HWD.out n)
            clear hcp c2 c1 HP hs0 hs1 hi1 hi2
            generalize W.drewN n = W2 at *
            go_loopw [8, 9] (fun i _ wr => ∃ m : Nat, i = .int .i64 m ∧ m ≤ scope.length ∧ Hid (inDoms doms scope (nth [] rows k) = inDoms doms (scope.drop m) ((nth [] rows k).drop m)) ∧ Hid (Below W0.heap.size W0 wr)) (fun i _ _ => scope.length - (intOf i).toNat)
            case atStart => exact ⟨0, rfl, by omega, Lib.hid rfl, HW2⟩
            case round =>
              obtain ⟨m, rfl, hm1, G, HW3⟩ := hrel
              by_cases hml : m < scope.length
              · obtain ⟨b1, o1, rfl, d1⟩ := HS.out.elems.num hml
                obtain ⟨b2, o2, rfl, d2⟩ := HT.out.elems.num (j := m) (by omega)
                obtain ⟨q1, q2⟩ := hsc'.out m hml
                obtain ⟨b3, o3, v3, rfl, d3, hd3⟩ := HD.out.elems.row (j := (nth 0 scope m).toNat) (by omega)
                have G' := Lib.hid (inDoms_drop doms scope (nth [] rows k) m hml (by omega))
                have HWE := Lib.hid (below_next HW3.out (Below.drew (Below.refl _ _)))
                have d1 := cell_kept HWE.out d1
                have d2 := cell_kept HWE.out d2
                have d3 := cell_kept HWE.out d3
                have hmr : m < (nth [] rows k).length := by omega
                have c4 := cell_kept HWE.out c0
                have x0 := cell_at (block_kept HWE.out HX.out) (i := 0) rfl
                have hin := Lib.hid (refin_any v3 _ (nth 0 (nth [] rows k) m) ok _ (hd3.below (by decide) HWE.out))
                clear hd3
                cases hmem : decide (nth 0 (nth [] rows k) m ∈ nth [] doms (nth 0 scope m).toNat)
                · rw [hmem] at hin
                  go_wp2_with fail
                  refine wp_region_still_tail 15 (by kernel_rfl) (by kernel_rfl) ?_
                  change wpStill _ _ (World.drew wr) (fun a' => wpList _ _ _ _ a' (World.drew wr)) _ _
                  generalize World.drew wr = W5 at *
                  simp only [List.take_succ_cons, List.take_zero, List.drop_succ_cons, List.drop_zero]
                  repeat (first | (refine still_plain rfl (fun K hK => ?_); go_simp; refine hK _ ?_; clear hK K) | (refine still_off _ _ _ _ _ rfl rfl rfl rfl rfl (fun K hK => ?_); go_simp; refine hK _ ?_; clear hK K) | (refine still_on _ _ _ _ rfl rfl rfl rfl (fun K hK => ?_); go_simp; refine hK _ ?_; clear hK K) | (refine still_dead _ _ _ _ rfl rfl rfl rfl (fun K hK => ?_); go_simp; refine hK _ ?_; clear hK K))
                  refine wpStill_nil ?_
                  go_wp2_with (go_at_call 88; refine hin.out.mono ?_; rintro e w5 ⟨rfl, rfl⟩)
                  go_ret
                  exact ⟨ret_bool (by rw [Hx.out, G.out, G'.out, hmem]; simp), HB.out.trans (HWE.out.mono HB.out.size)⟩
                · rw [hmem] at hin
                  go_wp2_with fail
                  refine wp_region_still_tail 15 (by kernel_rfl) (by kernel_rfl) ?_
                  change wpStill _ _ (World.drew wr) (fun a' => wpList _ _ _ _ a' (World.drew wr)) _ _
                  generalize World.drew wr = W5 at *
                  simp only [List.take_succ_cons, List.take_zero, List.drop_succ_cons, List.drop_zero]
                  repeat (first | (refine still_plain rfl (fun K hK => ?_); go_simp; refine hK _ ?_; clear hK K) | (refine still_off _ _ _ _ _ rfl rfl rfl rfl rfl (fun K hK => ?_); go_simp; refine hK _ ?_; clear hK K) | (refine still_on _ _ _ _ rfl rfl rfl rfl (fun K hK => ?_); go_simp; refine hK _ ?_; clear hK K) | (refine still_dead _ _ _ _ rfl rfl rfl rfl (fun K hK => ?_); go_simp; refine hK _ ?_; clear hK K))
                  refine wpStill_nil ?_
                  go_wp2_with (go_at_call 88; refine hin.out.mono ?_; rintro e w5 ⟨rfl, rfl⟩)
                  go_roundw
                  case rel => exact ⟨m + 1, by go_num, by omega, Lib.hid (by rw [G.out, G'.out, hmem]; simp), HWE⟩
                  case measure => simp [intOf]; omega
              · go_wp2
                go_roundw
                case rel => exact ⟨k + 1, by go_num, by omega, Lib.hid (by rw [Hx.out, G.out, List.drop_eq_nil_of_le (show scope.length ≤ m by omega)]; simp [inDoms]), HW3⟩
                case measure => simp [intOf]; omega
          · have Hx : Hid (rowsB doms scope none rows = false) := by
              apply Lib.hid; rw [H.out, rowsB_pos doms scope rows k hpos hkl, decide_eq_false hcmp]; simp
            clear H
            go_wp2_with fail
            refine wp_region_still_tail 21 (by kernel_rfl) (by kernel_rfl) ?_
            change wpStill _ _ (World.drew wr) (fun a' => wpList _ _ _ _ a' (World.drew wr)) _ _
            generalize World.drew wr = W at *
            simp only [List.take_succ_cons, List.take_zero, List.drop_succ_cons, List.drop_zero]
            repeat (first | (refine still_plain rfl (fun K hK => ?_); go_simp; refine hK _ ?_; clear hK K) | (refine still_off _ _ _ _ _ rfl rfl rfl rfl rfl (fun K hK => ?_); go_simp; refine hK _ ?_; clear hK K) | (refine still_on _ _ _ _ rfl rfl rfl rfl (fun K hK => ?_); go_simp; refine hK _ ?_; clear hK K) | (refine still_dead _ _ _ _ rfl rfl rfl rfl (fun K hK => ?_); go_simp; refine hK _ ?_; clear hK K))
            refine wpStill_nil ?_
            go_wp2_with (go_at_call 66; refine hcp.out.mono ?_; rintro e w2 ⟨rfl, n, rfl⟩)
            go_ret
            exact ⟨ret_bool (by rw [Hx.out]), HB.out.trans ((below_drewN HWD.out n).mono HB.out.size)⟩
        · have hk0 : k = 0 := by omega
          have Hx : Hid (rowsB doms scope none rows = (inDoms doms scope (nth [] rows k) && rowsB doms scope (ahead rows (k + 1)) (rows.drop (k + 1)))) := by
            apply Lib.hid
            subst hk0
            rw [H.out, rowsB_nul doms scope rows hkl, HLEN.out]; simp only [decide_true, Bool.true_and]
          clear H hk0
          have hd0 : decide (0 < (k : Int)) = false := decide_eq_false (by omega)
          go_wp2_with fail
          refine wp_region_still_tail 21 (by kernel_rfl) (by kernel_rfl) ?_
          change wpStill _ _ (World.drew wr) (fun a' => wpList _ _ _ _ a' (World.drew wr)) _ _
          generalize World.drew wr = W at *
          simp only [List.take_succ_cons, List.take_zero, List.drop_succ_cons, List.drop_zero]
          repeat (first | (refine still_plain rfl (fun K hK => ?_); go_simp; refine hK _ ?_; clear hK K) | (refine still_off _ _ _ _ _ rfl rfl rfl rfl rfl (fun K hK => ?_); go_simp; refine hK _ ?_; clear hK K) | (refine still_on _ _ _ _ rfl rfl rfl rfl (fun K hK => ?_); go_simp; refine hK _ ?_; clear hK K) | (refine still_dead _ _ _ _ rfl rfl rfl rfl (fun K hK => ?_); go_simp; refine hK _ ?_; clear hK K))
          refine wpStill_nil ?_
          have HW2 := Lib.hid HWD.out
          clear c1
          go_wp2_with fail
          generalize hWW : W = W2 at *
          go_loopw [8, 9] (fun i _ wr => ∃ m : Nat, i = .int .i64 m ∧ m ≤ scope.length ∧ Hid (inDoms doms scope (nth [] rows k) = inDoms doms (scope.drop m) ((nth [] rows k).drop m)) ∧ Hid (Below W0.heap.size W0 wr)) (fun i _ _ => scope.length - (intOf i).toNat)
          case atStart => exact ⟨0, rfl, by omega, Lib.hid rfl, HW2⟩
          case round =>
            obtain ⟨m, rfl, hm1, G, HW3⟩ := hrel
            by_cases hml : m < scope.length
            · obtain ⟨b1, o1, rfl, d1⟩ := HS.out.elems.num hml
              obtain ⟨b2, o2, rfl, d2⟩ := HT.out.elems.num (j := m) (by omega)
              obtain ⟨q1, q2⟩ := hsc'.out m hml
              obtain ⟨b3, o3, v3, rfl, d3, hd3⟩ := HD.out.elems.row (j := (nth 0 scope m).toNat) (by omega)
              have G' := Lib.hid (inDoms_drop doms scope (nth [] rows k) m hml (by omega))
              have HWE := Lib.hid (below_next HW3.out (Below.drew (Below.refl _ _)))
              have d1 := cell_kept HWE.out d1
              have d2 := cell_kept HWE.out d2
              have d3 := cell_kept HWE.out d3
              have hmr : m < (nth [] rows k).length := by omega
              have c4 := cell_kept HWE.out c0
              have x0 := cell_at (block_kept HWE.out HX.out) (i := 0) rfl
              have hin := Lib.hid (refin_any v3 _ (nth 0 (nth [] rows k) m) ok _ (hd3.below (by decide) HWE.out))
              clear hd3
              cases hmem : decide (nth 0 (nth [] rows k) m ∈ nth [] doms (nth 0 scope m).toNat)
              · rw [hmem] at hin
                go_wp2_with fail
                refine wp_region_still_tail 15 (by kernel_rfl) (by kernel_rfl) ?_
                change wpStill _ _ (World.drew wr) (fun a' => wpList _ _ _ _ a' (World.drew wr)) _ _
                generalize World.drew wr = W5 at *
                simp only [List.take_succ_cons, List.take_zero, List.drop_succ_cons, List.drop_zero]
                repeat (first | (refine still_plain rfl (fun K hK => ?_); go_simp; refine hK _ ?_; clear hK K) | (refine still_off _ _ _ _ _ rfl rfl rfl rfl rfl (fun K hK => ?_); go_simp; refine hK _ ?_; clear hK K) | (refine still_on _ _ _ _ rfl rfl rfl rfl (fun K hK => ?_); go_simp; refine hK _ ?_; clear hK K) | (refine still_dead _ _ _ _ rfl rfl rfl rfl (fun K hK => ?_); go_simp; refine hK _ ?_; clear hK K))
                refine wpStill_nil ?_
                go_wp2_with (go_at_call 88; refine hin.out.mono ?_; rintro e w5 ⟨rfl, rfl⟩)
                go_ret
                exact ⟨ret_bool (by rw [Hx.out, G.out, G'.out, hmem]; simp), HB.out.trans (HWE.out.mono HB.out.size)⟩
              · rw [hmem] at hin
                go_wp2_with fail
                refine wp_region_still_tail 15 (by kernel_rfl) (by kernel_rfl) ?_
                change wpStill _ _ (World.drew wr) (fun a' => wpList _ _ _ _ a' (World.drew wr)) _ _
                generalize World.drew wr = W5 at *
                simp only [List.take_succ_cons, List.take_zero, List.drop_succ_cons, List.drop_zero]
                repeat (first | (refine still_plain rfl (fun K hK => ?_); go_simp; refine hK _ ?_; clear hK K) | (refine still_off _ _ _ _ _ rfl rfl rfl rfl rfl (fun K hK => ?_); go_simp; refine hK _ ?_; clear hK K) | (refine still_on _ _ _ _ rfl rfl rfl rfl (fun K hK => ?_); go_simp; refine hK _ ?_; clear hK K) | (refine still_dead _ _ _ _ rfl rfl rfl rfl (fun K hK => ?_); go_simp; refine hK _ ?_; clear hK K))
                refine wpStill_nil ?_
                go_wp2_with (go_at_call 88; refine hin.out.mono ?_; rintro e w5 ⟨rfl, rfl⟩)
                go_roundw
                case rel => exact ⟨m + 1, by go_num, by omega, Lib.hid (by rw [G.out, G'.out, hmem]; simp), HWE⟩
                case measure => simp [intOf]; omega
            · go_wp2
              go_roundw
              case rel => exact ⟨k + 1, by go_num, by omega, Lib.hid (by rw [Hx.out, G.out, List.drop_eq_nil_of_le (show scope.length ≤ m by omega)]; simp [inDoms]), HW3⟩
              case measure => simp [intOf]; omega
      · have hb : (((nth [] rows k).length : Int) != scope.length) = true := by simp; omega
        have Hx : Hid (rowsB doms scope none rows = false) := by
          apply Lib.hid; rw [H.out, rowsB_drop doms scope rows k hkl, decide_eq_false hlen]; simp
        clear H
        go_wp2_with fail
        refine wp_region_still_tail 21 (by kernel_rfl) (by kernel_rfl) ?_
        change wpStill _ _ (World.drew wr) (fun a' => wpList _ _ _ _ a' (World.drew wr)) _ _
        generalize World.drew wr = W at *
        simp only [List.take_succ_cons, List.take_zero, List.drop_succ_cons, List.drop_zero]
        repeat (first | (refine still_plain rfl (fun K hK => ?_); go_simp; refine hK _ ?_; clear hK K) | (refine still_off _ _ _ _ _ rfl rfl rfl rfl rfl (fun K hK => ?_); go_simp; refine hK _ ?_; clear hK K) | (refine still_on _ _ _ _ rfl rfl rfl rfl (fun K hK => ?_); go_simp; refine hK _ ?_; clear hK K) | (refine still_dead _ _ _ _ rfl rfl rfl rfl (fun K hK => ?_); go_simp; refine hK _ ?_; clear hK K))
        refine wpStill_nil ?_
        go_wp2
        go_ret
        exact ⟨ret_bool (by rw [Hx.out]), HB.out.trans (HWD.out.mono HB.out.size)⟩
    · go_wp2
      go_ret
      exact ⟨ret_bool (by rw [H.out, List.drop_eq_nil_of_le (by omega)]; cases k <;> rfl), HB.out.trans (HW.out.mono HB.out.size)⟩
end Go.Proofs.YtoahaigfjfeopaaGreatDoor

/- arboristref06.parser: sign, number. -/
namespace Go.Proofs.YtoahaigfjfeopaaGreatDoor
open Go.RowKit
attribute [local irreducible] wpStill wpLex wpLexO wpPlan Calls

theorem RB.cell1 {g : Nat} {w : World} {toks : List Tok} {s : RS} {dv hv sv : Value} (h : RB g w toks s dv hv sv) : w.cell? ⟨g, 1, none⟩ = some (.int .i64 s.i) := by
  obtain ⟨A, c, h, _⟩ := h; exact cell_at h (i := 1) rfl
theorem RB.cell6 {g : Nat} {w : World} {toks : List Tok} {s : RS} {dv hv sv : Value} (h : RB g w toks s dv hv sv) : w.cell? ⟨g, 6, none⟩ = some (.int .i64 s.e) := by
  obtain ⟨A, c, h, _⟩ := h; exact cell_at h (i := 6) rfl
theorem RB.cellD {g : Nat} {w : World} {toks : List Tok} {s : RS} {dv hv sv : Value} (h : RB g w toks s dv hv sv) : w.cell? ⟨g, 2, none⟩ = some dv := by
  obtain ⟨A, c, h, _⟩ := h; exact cell_at h (i := 2) rfl
theorem RB.cellH {g : Nat} {w : World} {toks : List Tok} {s : RS} {dv hv sv : Value} (h : RB g w toks s dv hv sv) : w.cell? ⟨g, 3, none⟩ = some hv := by
  obtain ⟨A, c, h, _⟩ := h; exact cell_at h (i := 3) rfl
theorem RB.cellS {g : Nat} {w : World} {toks : List Tok} {s : RS} {dv hv sv : Value} (h : RB g w toks s dv hv sv) : w.cell? ⟨g, 4, none⟩ = some sv := by
  obtain ⟨A, c, h, _⟩ := h; exact cell_at h (i := 4) rfl
set_option maxHeartbeats 1000000 in
theorem sign_r (g : Nat) (w : World) (toks : List Tok) (s : RS) (dv hv sv : Value) (str : List UInt8) (h : RB g w toks s dv hv sv) :
    Calls Tryz.prog 86 #[.pointer (some ⟨g, 0, none⟩), .string ⟨str.toArray⟩] w fun e w' => e = .returned (.tuple #[]) ∧ RB g w' toks (signF toks str s) dv hv sv ∧ Chg (fun k => k = g) w w' := by
  have his := is_r g w toks s dv hv sv str h
  have H := Lib.hid h
  have HF : Hid (signF toks str s = nextF toks (if isF toks str s = true then s else failF toks s.i 3 s)) := Lib.hid rfl
  cases hq : isF toks str s with
  | true =>
    rw [hq] at his HF
    have HIS := Lib.hid his
    clear his h hq
    go_enter Tryz.func86, Tryz.ntmps86
    go_wp2_with (first
      | (go_at_call 107; refine HIS.out.mono ?_; rintro e w1 ⟨rfl, hb⟩; (have HB := Lib.hid hb); clear hb)
      | (go_at_call 81; refine (next_r g _ toks s dv hv sv (H.out.below HB.out)).mono ?_; rintro e w2 ⟨rfl, hr, hc⟩; (have HR := Lib.hid hr); (have HC := Lib.hid hc); clear hr hc))
    go_end0
    exact ⟨rfl, by rw [HF.out]; exact HR.out, (chg_of_below HB.out _).trans HC.out (fun _ _ h => h)⟩
  | false =>
    rw [hq] at his HF
    have HIS := Lib.hid his
    clear his h hq
    go_enter Tryz.func86, Tryz.ntmps86
    go_wp2_with (first
      | (go_at_call 107; refine HIS.out.mono ?_; rintro e w1 ⟨rfl, hb⟩; (have HB := Lib.hid hb); (have p1 := (H.out.below hb).cell1); clear hb)
      | (go_at_call 80; refine (fail_r g _ toks s dv hv sv s.i 3 (H.out.below HB.out) H.out.idx).mono ?_; rintro e w2 ⟨rfl, hr, hc⟩; (have HR2 := Lib.hid hr); (have HC2 := Lib.hid hc); clear hr hc)
      | (go_at_call 81; refine (next_r g _ toks _ dv hv sv HR2.out).mono ?_; rintro e w3 ⟨rfl, hr, hc⟩; (have HR := Lib.hid hr); (have HC := Lib.hid hc); clear hr hc))
    go_end0
    exact ⟨rfl, by rw [HF.out]; exact HR.out, ((chg_of_below HB.out _).trans HC2.out (fun _ _ h => h)).trans HC.out (fun _ _ h => h)⟩
set_option maxHeartbeats 2000000 in
theorem number_r (g : Nat) (w : World) (toks : List Tok) (s : RS) (dv hv sv : Value) (m : Int) (hm0 : 0 ≤ m) (hm1 : m ≤ 1000000000000) (h : RB g w toks s dv hv sv) :
    Calls Tryz.prog 108 #[.pointer (some ⟨g, 0, none⟩), .int .i64 m] w fun e w' => e = .returned (.int .i64 (tkF toks s).n) ∧ RB g w' toks (numberF toks m s) dv hv sv ∧ Chg (fun k => k = g) w w' := by
  have his := is_r g w toks s dv hv sv [] h
  have H := Lib.hid h
  have HF : Hid (numberF toks m s = nextF toks (if isF toks [] s = true then (if smallB (tkF toks s).n m = true then s else failF toks s.i 4 s) else failF toks s.i 3 s)) := Lib.hid rfl
  obtain ⟨A, c, hg, hs, hi⟩ := h
  have hgw := lt_of_block hg
  have hnc : toks.length ≤ 140737488355328 := by obtain ⟨_, _, _, _, hm, _⟩ := hs; exact hm
  have p0 : w.cell? ⟨g, 0, none⟩ = some (.slice A toks.length c) := cell_at hg (i := 0) rfl
  have p1 : w.cell? ⟨g, 1, none⟩ = some (.int .i64 s.i) := cell_at hg (i := 1) rfl
  obtain ⟨b, o, rfl, _, _, _, c2, _⟩ := tok_at hs hi
  change w.cell? ⟨b, o + s.i * 4 + 2, none⟩ = some (.int .i64 (tkF toks s).n) at c2
  generalize (tkF toks s).n = tn at *
  clear hg hs
  have HSM := Lib.hid fun W => refsmall_any tn m W (by omega) (by omega)
  cases hq : isF toks [] s with
  | true =>
    rw [hq] at his HF
    have HIS := Lib.hid his
    clear his hq
    cases hsm : smallB tn m with
    | true =>
      rw [hsm] at HF HSM
      clear hsm
      go_enter Tryz.func108, Tryz.ntmps108
      go_wp2_with (first
        | (go_at_call 107; refine HIS.out.mono ?_; rintro e w1 ⟨rfl, hb⟩; (have HB := Lib.hid hb); (have p0 := cell_kept hb p0); (have p1 := cell_kept hb p1); (have c2 := cell_kept hb c2); clear hb HIS))
      go_quiet (fail)
      have hdr := below_drewN (Below.refl w1.heap.size w1) nq
      have HB2 := Lib.hid (below_next HB.out hdr)
      have p1 := cell_kept hdr p1
      clear hdr HB
      generalize w1.drewN nq = W at *
      go_wp2_with (first
        | (go_at_call 23; refine (HSM.out _).mono ?_; rintro e wq ⟨rfl, hwq⟩; subst wq)
        | (go_at_call 81; refine (next_r g _ toks s dv hv sv (H.out.below HB2.out)).mono ?_; rintro e w2 ⟨rfl, hr, hc⟩; (have HR := Lib.hid hr); (have HC := Lib.hid hc); clear hr hc))
      go_ret
      exact ⟨rfl, by rw [HF.out]; exact HR.out, (chg_of_below HB2.out _).trans HC.out (fun _ _ h => h)⟩
    | false =>
      rw [hsm] at HF HSM
      clear hsm
      go_enter Tryz.func108, Tryz.ntmps108
      go_wp2_with (first
        | (go_at_call 107; refine HIS.out.mono ?_; rintro e w1 ⟨rfl, hb⟩; (have HB := Lib.hid hb); (have p0 := cell_kept hb p0); (have p1 := cell_kept hb p1); (have c2 := cell_kept hb c2); clear hb HIS))
      go_quiet (fail)
      have hdr := below_drewN (Below.refl w1.heap.size w1) nq
      have HB2 := Lib.hid (below_next HB.out hdr)
      have p1 := cell_kept hdr p1
      clear hdr HB
      generalize w1.drewN nq = W at *
      go_wp2_with (first
        | (go_at_call 23; refine (HSM.out _).mono ?_; rintro e wq ⟨rfl, hwq⟩; subst wq)
        | (go_at_call 80; refine (fail_r g _ toks s dv hv sv s.i 4 (H.out.below HB2.out) hi).mono ?_; rintro e w2 ⟨rfl, hr, hc⟩; (have HR2 := Lib.hid hr); (have HC2 := Lib.hid hc); clear hr hc)
        | (go_at_call 81; refine (next_r g _ toks _ dv hv sv HR2.out).mono ?_; rintro e w3 ⟨rfl, hr, hc⟩; (have HR := Lib.hid hr); (have HC := Lib.hid hc); clear hr hc))
      go_ret
      exact ⟨rfl, by rw [HF.out]; exact HR.out, ((chg_of_below HB2.out _).trans HC2.out (fun _ _ h => h)).trans HC.out (fun _ _ h => h)⟩
  | false =>
    rw [hq] at his HF
    have HIS := Lib.hid his
    clear his hq
    go_enter Tryz.func108, Tryz.ntmps108
    go_wp2_with (first
      | (go_at_call 107; refine HIS.out.mono ?_; rintro e w1 ⟨rfl, hb⟩; (have HB := Lib.hid hb); (have p0 := cell_kept hb p0); (have p1 := cell_kept hb p1); (have c2 := cell_kept hb c2); clear hb HIS))
    go_quiet (fail)
    have hdr := below_drewN (Below.refl w1.heap.size w1) nq
    have HB2 := Lib.hid (below_next HB.out hdr)
    have p1 := cell_kept hdr p1
    clear hdr HB
    generalize w1.drewN nq = W at *
    go_wp2_with (first
      | (go_at_call 80; refine (fail_r g _ toks s dv hv sv s.i 3 (H.out.below HB2.out) hi).mono ?_; rintro e w2 ⟨rfl, hr, hc⟩; (have HR2 := Lib.hid hr); (have HC2 := Lib.hid hc); clear hr hc)
      | (go_at_call 81; refine (next_r g _ toks _ dv hv sv HR2.out).mono ?_; rintro e w3 ⟨rfl, hr, hc⟩; (have HR := Lib.hid hr); (have HC := Lib.hid hc); clear hr hc))
    go_ret
    exact ⟨rfl, by rw [HF.out]; exact HR.out, ((chg_of_below HB2.out _).trans HC2.out (fun _ _ h => h)).trans HC.out (fun _ _ h => h)⟩
end Go.Proofs.YtoahaigfjfeopaaGreatDoor

/- arboristref06.parser: variable. -/
namespace Go.Proofs.YtoahaigfjfeopaaGreatDoor
open Go.RowKit
attribute [local irreducible] wpStill wpLex wpLexO wpPlan Calls

theorem Chg.cell {S : Nat → Prop} {a b : World} (h : Chg S a b) {p : Addr} {u : Value} (hn : ¬ S p.block) (hc : a.cell? p = some u) : b.cell? p = some u := by
  have := h.block p.block (lt_of_cell hc) hn
  rw [← hc]
  simp only [World.cell?, this]
def VarR (g base : Nat) (w w' : World) (toks : List Tok) (s' : RS) (dv hv sv v : Value) (l' : List Int) (e : Ending) : Prop :=
  ∃ v', e = .returned v' ∧ OwnI base v' l' w' ∧ RB g w' toks s' dv hv sv ∧ (v'.ownBlock = v.ownBlock ∨ ∃ k, v'.ownBlock = some k ∧ w.heap.size ≤ k)
set_option maxRecDepth 100000 in
set_option maxHeartbeats 4000000 in
theorem variable_r (g base : Nat) (w : World) (toks : List Tok) (s : RS) (DA : Option Addr) (nd Dc : Nat) (hv sv : Value) (l : List Int) (v : Value)
    (h : RB g w toks s (.slice DA nd Dc) hv sv) (_ : nd ≤ 140737488355328) (hgb : g < base) (hbs : base ≤ w.heap.size) (hl : OwnI base v l w) (hle : l.length ≤ 1000000) (htn : Fit (tkF toks s).n) :
    Calls Tryz.prog 110 #[.pointer (some ⟨g, 0, none⟩), v] w fun e w' => VarR g base w w' toks (variableF toks nd l s) (.slice DA nd Dc) hv sv v (l ++ [(tkF toks s).n]) e ∧ Chg (fun k => k = g ∨ v.ownBlock = some k) w w' := by
  have H := Lib.hid h
  have hi := h.idx
  have hgw := h.lt
  have p1 := h.cell1
  have HL0 := Lib.hid hl
  have hlS := hl.sl (by omega)
  obtain ⟨A, c, rfl, hc, hm, _⟩ := hlS
  have HF : Hid (variableF toks nd l s = if (tkF toks s).n < 0 ∨ (nd : Int) ≤ (tkF toks s).n ∨ (0 < l.length ∧ (tkF toks s).n ≤ lastI l) then failF toks s.i 5 (if l.length = 6 then failF toks s.i 7 (numberF toks 1000000000000 s) else numberF toks 1000000000000 s) else (if l.length = 6 then failF toks s.i 7 (numberF toks 1000000000000 s) else numberF toks 1000000000000 s)) := Lib.hid rfl
  obtain ⟨i0, hi0, hz0, hz1, hz2⟩ := info_parts (show (Tryz.prog.info? 3).map (fun i => (i.zero, i.size, i.bytes)) = some (some (.int .i64 0), 1, 8) by kernel_rfl)
  obtain ⟨htn0, htn1⟩ := htn
  have hnum := number_r g w toks s _ hv sv 1000000000000 (by decide) (by decide) h
  generalize (tkF toks s).n = tn at *
  have HNUM := Lib.hid hnum
  clear h hl hnum
  by_cases h3 : l.length = 0
  · obtain rfl : l = [] := List.eq_nil_of_length_eq_zero h3
    have h6 : ¬ ([] : List Int).length = 6 := by decide
    rw [if_neg h6] at HF
    clear h3 h6
    by_cases h1 : tn < 0
    · rw [if_pos (.inl h1)] at HF
      have hd1 : decide (tn < 0) = true := decide_eq_true h1
      clear h1
      go_enter Tryz.func110, Tryz.ntmps110
      go_wp2_with (first
        | (go_at_call 108; refine HNUM.out.mono ?_; rintro e W1 ⟨rfl, hp, hc⟩; (have HP := Lib.hid hp); (have HG := Lib.hid (hc.mono (T := fun k => k = g ∨ (Value.slice (A) (([] : List Int)).length c).ownBlock = some k) (fun _ _ h => Or.inl h))); (have HL := Lib.hid (HL0.out.chg hc (fun k hk e => by have := (HL0.out.lt k hk).1; omega))); (have p2 := hp.cellD); skip; clear hp hc)
        | (go_at_call 80; refine (fail_r g _ toks _ _ hv sv s.i 7 HP.out hi).mono ?_; rintro e W2 ⟨rfl, hp, hc⟩; (have HP := Lib.hid hp); (have HG := Lib.hid (HG.out.trans hc (fun _ _ h => Or.inl h))); (have HL := Lib.hid (HL.out.chg hc (fun k hk e => by have := (HL.out.lt k hk).1; omega))); (have p2 := hp.cellD); skip; clear hp hc)
        | (go_at_call 80; refine (fail_r g _ toks _ _ hv sv s.i 5 HP.out hi).mono ?_; rintro e W3 ⟨rfl, hp, hc⟩; (have HP := Lib.hid hp); (have HG := Lib.hid (HG.out.trans hc (fun _ _ h => Or.inl h))); (have HL := Lib.hid (HL.out.chg hc (fun k hk e => by have := (HL.out.lt k hk).1; omega))); clear hp hc)
        | (at_builtin; refine wpList_append_own_at _ rfl _ _ 41 rfl base 3 i0 _ 1 8 Tryz.underlying41 hi0 hz0 hz1 hz2 rfl (by decide) _ (([] : List Int)).length ((([] : List Int)).map (Value.int .i64)) rfl (HL.out.alloc _) ⟨_, 0, none⟩ 1 1 [.int .i64 tn] rfl rfl ?c1 ?c2 ?c3 ?c4 ?c5 ?_))
      case c1 => exact World.news_of_block (cs := #[.int .i64 tn]) (t := 3) (fr := (0, 0)) (heap_alloc_new _ _)
      case c2 => simp [Value.oneCell']
      case c3 => (try simp only [maxLen]); (try simp); try omega
      case c4 => (try simp); try omega
      case c5 => have := HG.out.size; simp; omega
      intro v' w2 hown' hgrow _ hat
      have HO2 := Lib.hid hown'
      have HG2 := Lib.hid hgrow
      have HA2 := Lib.hid hat
      clear hown' hgrow hat
      go_wp2
      go_ret
      refine ⟨⟨v', rfl, ?_, ?_, ?_⟩, (HG.out.alloc _).trans (chg_of_grown HG2.out) (fun j _ hj => Or.inr hj)⟩
      · have := HO2.out
        unfold OwnI
        simpa using this
      · rw [HF.out]
        exact (HP.out.below (below_alloc1 _ _)).chg (chg_of_grown HG2.out) (fun k hk e => by have := (HL.out.lt k e).1; omega)
      · rcases HA2.out with h | h
        · exact Or.inl h
        · exact Or.inr ⟨_, h, by have := HG.out.size; simp; omega⟩
    · have hd1 : decide (tn < 0) = false := decide_eq_false h1
      by_cases h2 : (nd : Int) ≤ tn
      · rw [if_pos (.inr (.inl h2))] at HF
        have hd2 : decide ((nd : Int) ≤ tn) = true := decide_eq_true h2
        clear h1 h2
        go_enter Tryz.func110, Tryz.ntmps110
        go_wp2_with (first
          | (go_at_call 108; refine HNUM.out.mono ?_; rintro e W1 ⟨rfl, hp, hc⟩; (have HP := Lib.hid hp); (have HG := Lib.hid (hc.mono (T := fun k => k = g ∨ (Value.slice (A) (([] : List Int)).length c).ownBlock = some k) (fun _ _ h => Or.inl h))); (have HL := Lib.hid (HL0.out.chg hc (fun k hk e => by have := (HL0.out.lt k hk).1; omega))); (have p2 := hp.cellD); skip; clear hp hc)
          | (go_at_call 80; refine (fail_r g _ toks _ _ hv sv s.i 7 HP.out hi).mono ?_; rintro e W2 ⟨rfl, hp, hc⟩; (have HP := Lib.hid hp); (have HG := Lib.hid (HG.out.trans hc (fun _ _ h => Or.inl h))); (have HL := Lib.hid (HL.out.chg hc (fun k hk e => by have := (HL.out.lt k hk).1; omega))); (have p2 := hp.cellD); skip; clear hp hc)
          | (go_at_call 80; refine (fail_r g _ toks _ _ hv sv s.i 5 HP.out hi).mono ?_; rintro e W3 ⟨rfl, hp, hc⟩; (have HP := Lib.hid hp); (have HG := Lib.hid (HG.out.trans hc (fun _ _ h => Or.inl h))); (have HL := Lib.hid (HL.out.chg hc (fun k hk e => by have := (HL.out.lt k hk).1; omega))); clear hp hc)
          | (at_builtin; refine wpList_append_own_at _ rfl _ _ 41 rfl base 3 i0 _ 1 8 Tryz.underlying41 hi0 hz0 hz1 hz2 rfl (by decide) _ (([] : List Int)).length ((([] : List Int)).map (Value.int .i64)) rfl (HL.out.alloc _) ⟨_, 0, none⟩ 1 1 [.int .i64 tn] rfl rfl ?c1 ?c2 ?c3 ?c4 ?c5 ?_))
        case c1 => exact World.news_of_block (cs := #[.int .i64 tn]) (t := 3) (fr := (0, 0)) (heap_alloc_new _ _)
        case c2 => simp [Value.oneCell']
        case c3 => (try simp only [maxLen]); (try simp); try omega
        case c4 => (try simp); try omega
        case c5 => have := HG.out.size; simp; omega
        intro v' w2 hown' hgrow _ hat
        have HO2 := Lib.hid hown'
        have HG2 := Lib.hid hgrow
        have HA2 := Lib.hid hat
        clear hown' hgrow hat
        go_wp2
        go_ret
        refine ⟨⟨v', rfl, ?_, ?_, ?_⟩, (HG.out.alloc _).trans (chg_of_grown HG2.out) (fun j _ hj => Or.inr hj)⟩
        · have := HO2.out
          unfold OwnI
          simpa using this
        · rw [HF.out]
          exact (HP.out.below (below_alloc1 _ _)).chg (chg_of_grown HG2.out) (fun k hk e => by have := (HL.out.lt k e).1; omega)
        · rcases HA2.out with h | h
          · exact Or.inl h
          · exact Or.inr ⟨_, h, by have := HG.out.size; simp; omega⟩
      · rw [if_neg (by simp; omega)] at HF
        have hd2 : decide ((nd : Int) ≤ tn) = false := decide_eq_false h2
        clear h1 h2
        go_enter Tryz.func110, Tryz.ntmps110
        go_wp2_with (first
          | (go_at_call 108; refine HNUM.out.mono ?_; rintro e W1 ⟨rfl, hp, hc⟩; (have HP := Lib.hid hp); (have HG := Lib.hid (hc.mono (T := fun k => k = g ∨ (Value.slice (A) (([] : List Int)).length c).ownBlock = some k) (fun _ _ h => Or.inl h))); (have HL := Lib.hid (HL0.out.chg hc (fun k hk e => by have := (HL0.out.lt k hk).1; omega))); (have p2 := hp.cellD); skip; clear hp hc)
          | (go_at_call 80; refine (fail_r g _ toks _ _ hv sv s.i 7 HP.out hi).mono ?_; rintro e W2 ⟨rfl, hp, hc⟩; (have HP := Lib.hid hp); (have HG := Lib.hid (HG.out.trans hc (fun _ _ h => Or.inl h))); (have HL := Lib.hid (HL.out.chg hc (fun k hk e => by have := (HL.out.lt k hk).1; omega))); (have p2 := hp.cellD); skip; clear hp hc)
          | (go_at_call 80; refine (fail_r g _ toks _ _ hv sv s.i 5 HP.out hi).mono ?_; rintro e W3 ⟨rfl, hp, hc⟩; (have HP := Lib.hid hp); (have HG := Lib.hid (HG.out.trans hc (fun _ _ h => Or.inl h))); (have HL := Lib.hid (HL.out.chg hc (fun k hk e => by have := (HL.out.lt k hk).1; omega))); clear hp hc)
          | (at_builtin; refine wpList_append_own_at _ rfl _ _ 41 rfl base 3 i0 _ 1 8 Tryz.underlying41 hi0 hz0 hz1 hz2 rfl (by decide) _ (([] : List Int)).length ((([] : List Int)).map (Value.int .i64)) rfl (HL.out.alloc _) ⟨_, 0, none⟩ 1 1 [.int .i64 tn] rfl rfl ?c1 ?c2 ?c3 ?c4 ?c5 ?_))
        case c1 => exact World.news_of_block (cs := #[.int .i64 tn]) (t := 3) (fr := (0, 0)) (heap_alloc_new _ _)
        case c2 => simp [Value.oneCell']
        case c3 => (try simp only [maxLen]); (try simp); try omega
        case c4 => (try simp); try omega
        case c5 => have := HG.out.size; simp; omega
        intro v' w2 hown' hgrow _ hat
        have HO2 := Lib.hid hown'
        have HG2 := Lib.hid hgrow
        have HA2 := Lib.hid hat
        clear hown' hgrow hat
        go_wp2
        go_ret
        refine ⟨⟨v', rfl, ?_, ?_, ?_⟩, (HG.out.alloc _).trans (chg_of_grown HG2.out) (fun j _ hj => Or.inr hj)⟩
        · have := HO2.out
          unfold OwnI
          simpa using this
        · rw [HF.out]
          exact (HP.out.below (below_alloc1 _ _)).chg (chg_of_grown HG2.out) (fun k hk e => by have := (HL.out.lt k e).1; omega)
        · rcases HA2.out with h | h
          · exact Or.inl h
          · exact Or.inr ⟨_, h, by have := HG.out.size; simp; omega⟩
  · obtain ⟨b, rfl, hb, p3⟩ := OwnI.cell HL0.out (j := l.length - 1) (by omega)
    have p3 : w.cell? ⟨b, l.length - 1, none⟩ = some (.int .i64 (lastI l)) := p3
    have w0 : decide ((0 : Int) < (l.length : Int)) = true := decide_eq_true (by omega)
    have w1 : IntKind.i64.wrap ((l.length : Int) - 1) = (l.length : Int) - 1 := IntWalk.i64_in _ (by omega)
    have w2 : ((l.length : Int) - 1).toNat = l.length - 1 := by omega
    have w3 : (0 : Int) ≤ (l.length : Int) - 1 := by omega
    have w5 : (1 : Int) ≤ (l.length : Int) := by omega
    have w4 : (l.length : Int) - 1 < (l.length : Int) := by omega
    have hlp : 0 < l.length := by omega
    generalize lastI l = la at *
    clear h3
    by_cases h6 : l.length = 6
    · rw [if_pos h6] at HF
      have hd6 : ((l.length : Int) == 6) = true := by simp; omega
      clear h6
      by_cases h1 : tn < 0
      · rw [if_pos (.inl h1)] at HF
        have hd1 : decide (tn < 0) = true := decide_eq_true h1
        clear h1
        go_enter Tryz.func110, Tryz.ntmps110
        go_wp2_with (first
          | (go_at_call 108; refine HNUM.out.mono ?_; rintro e W1 ⟨rfl, hp, hc⟩; (have HP := Lib.hid hp); (have HG := Lib.hid (hc.mono (T := fun k => k = g ∨ (Value.slice (some ⟨b, 0, none⟩) (l).length c).ownBlock = some k) (fun _ _ h => Or.inl h))); (have HL := Lib.hid (HL0.out.chg hc (fun k hk e => by have := (HL0.out.lt k hk).1; omega))); (have p2 := hp.cellD); (have p3 := hc.cell (p := ⟨b, l.length - 1, none⟩) (fun e : b = g => by omega) p3); clear hp hc)
          | (go_at_call 80; refine (fail_r g _ toks _ _ hv sv s.i 7 HP.out hi).mono ?_; rintro e W2 ⟨rfl, hp, hc⟩; (have HP := Lib.hid hp); (have HG := Lib.hid (HG.out.trans hc (fun _ _ h => Or.inl h))); (have HL := Lib.hid (HL.out.chg hc (fun k hk e => by have := (HL.out.lt k hk).1; omega))); (have p2 := hp.cellD); (have p3 := hc.cell (p := ⟨b, l.length - 1, none⟩) (fun e : b = g => by omega) p3); clear hp hc)
          | (go_at_call 80; refine (fail_r g _ toks _ _ hv sv s.i 5 HP.out hi).mono ?_; rintro e W3 ⟨rfl, hp, hc⟩; (have HP := Lib.hid hp); (have HG := Lib.hid (HG.out.trans hc (fun _ _ h => Or.inl h))); (have HL := Lib.hid (HL.out.chg hc (fun k hk e => by have := (HL.out.lt k hk).1; omega))); clear hp hc)
          | (at_builtin; refine wpList_append_own_at _ rfl _ _ 41 rfl base 3 i0 _ 1 8 Tryz.underlying41 hi0 hz0 hz1 hz2 rfl (by decide) _ (l).length ((l).map (Value.int .i64)) rfl (HL.out.alloc _) ⟨_, 0, none⟩ 1 1 [.int .i64 tn] rfl rfl ?c1 ?c2 ?c3 ?c4 ?c5 ?_))
        case c1 => exact World.news_of_block (cs := #[.int .i64 tn]) (t := 3) (fr := (0, 0)) (heap_alloc_new _ _)
        case c2 => simp [Value.oneCell']
        case c3 => (try simp only [maxLen]); (try simp); try omega
        case c4 => (try simp); try omega
        case c5 => have := HG.out.size; simp; omega
        intro v' w2 hown' hgrow _ hat
        have HO2 := Lib.hid hown'
        have HG2 := Lib.hid hgrow
        have HA2 := Lib.hid hat
        clear hown' hgrow hat
        go_wp2
        go_ret
        refine ⟨⟨v', rfl, ?_, ?_, ?_⟩, (HG.out.alloc _).trans (chg_of_grown HG2.out) (fun j _ hj => Or.inr hj)⟩
        · have := HO2.out
          unfold OwnI
          simpa using this
        · rw [HF.out]
          exact (HP.out.below (below_alloc1 _ _)).chg (chg_of_grown HG2.out) (fun k hk e => by have := (HL.out.lt k e).1; omega)
        · rcases HA2.out with h | h
          · exact Or.inl h
          · exact Or.inr ⟨_, h, by have := HG.out.size; simp; omega⟩
      · have hd1 : decide (tn < 0) = false := decide_eq_false h1
        by_cases h2 : (nd : Int) ≤ tn
        · rw [if_pos (.inr (.inl h2))] at HF
          have hd2 : decide ((nd : Int) ≤ tn) = true := decide_eq_true h2
          clear h1 h2
          go_enter Tryz.func110, Tryz.ntmps110
          go_wp2_with (first
            | (go_at_call 108; refine HNUM.out.mono ?_; rintro e W1 ⟨rfl, hp, hc⟩; (have HP := Lib.hid hp); (have HG := Lib.hid (hc.mono (T := fun k => k = g ∨ (Value.slice (some ⟨b, 0, none⟩) (l).length c).ownBlock = some k) (fun _ _ h => Or.inl h))); (have HL := Lib.hid (HL0.out.chg hc (fun k hk e => by have := (HL0.out.lt k hk).1; omega))); (have p2 := hp.cellD); (have p3 := hc.cell (p := ⟨b, l.length - 1, none⟩) (fun e : b = g => by omega) p3); clear hp hc)
            | (go_at_call 80; refine (fail_r g _ toks _ _ hv sv s.i 7 HP.out hi).mono ?_; rintro e W2 ⟨rfl, hp, hc⟩; (have HP := Lib.hid hp); (have HG := Lib.hid (HG.out.trans hc (fun _ _ h => Or.inl h))); (have HL := Lib.hid (HL.out.chg hc (fun k hk e => by have := (HL.out.lt k hk).1; omega))); (have p2 := hp.cellD); (have p3 := hc.cell (p := ⟨b, l.length - 1, none⟩) (fun e : b = g => by omega) p3); clear hp hc)
            | (go_at_call 80; refine (fail_r g _ toks _ _ hv sv s.i 5 HP.out hi).mono ?_; rintro e W3 ⟨rfl, hp, hc⟩; (have HP := Lib.hid hp); (have HG := Lib.hid (HG.out.trans hc (fun _ _ h => Or.inl h))); (have HL := Lib.hid (HL.out.chg hc (fun k hk e => by have := (HL.out.lt k hk).1; omega))); clear hp hc)
            | (at_builtin; refine wpList_append_own_at _ rfl _ _ 41 rfl base 3 i0 _ 1 8 Tryz.underlying41 hi0 hz0 hz1 hz2 rfl (by decide) _ (l).length ((l).map (Value.int .i64)) rfl (HL.out.alloc _) ⟨_, 0, none⟩ 1 1 [.int .i64 tn] rfl rfl ?c1 ?c2 ?c3 ?c4 ?c5 ?_))
          case c1 => exact World.news_of_block (cs := #[.int .i64 tn]) (t := 3) (fr := (0, 0)) (heap_alloc_new _ _)
          case c2 => simp [Value.oneCell']
          case c3 => (try simp only [maxLen]); (try simp); try omega
          case c4 => (try simp); try omega
          case c5 => have := HG.out.size; simp; omega
          intro v' w2 hown' hgrow _ hat
          have HO2 := Lib.hid hown'
          have HG2 := Lib.hid hgrow
          have HA2 := Lib.hid hat
          clear hown' hgrow hat
          go_wp2
          go_ret
          refine ⟨⟨v', rfl, ?_, ?_, ?_⟩, (HG.out.alloc _).trans (chg_of_grown HG2.out) (fun j _ hj => Or.inr hj)⟩
          · have := HO2.out
            unfold OwnI
            simpa using this
          · rw [HF.out]
            exact (HP.out.below (below_alloc1 _ _)).chg (chg_of_grown HG2.out) (fun k hk e => by have := (HL.out.lt k e).1; omega)
          · rcases HA2.out with h | h
            · exact Or.inl h
            · exact Or.inr ⟨_, h, by have := HG.out.size; simp; omega⟩
        · have hd2 : decide ((nd : Int) ≤ tn) = false := decide_eq_false h2
          by_cases h4 : tn ≤ la
          · rw [if_pos (.inr (.inr ⟨hlp, h4⟩))] at HF
            have hd4 : decide (tn ≤ la) = true := decide_eq_true h4
            clear h1 h2 h4
            go_enter Tryz.func110, Tryz.ntmps110
            go_wp2_with (first
              | (go_at_call 108; refine HNUM.out.mono ?_; rintro e W1 ⟨rfl, hp, hc⟩; (have HP := Lib.hid hp); (have HG := Lib.hid (hc.mono (T := fun k => k = g ∨ (Value.slice (some ⟨b, 0, none⟩) (l).length c).ownBlock = some k) (fun _ _ h => Or.inl h))); (have HL := Lib.hid (HL0.out.chg hc (fun k hk e => by have := (HL0.out.lt k hk).1; omega))); (have p2 := hp.cellD); (have p3 := hc.cell (p := ⟨b, l.length - 1, none⟩) (fun e : b = g => by omega) p3); clear hp hc)
              | (go_at_call 80; refine (fail_r g _ toks _ _ hv sv s.i 7 HP.out hi).mono ?_; rintro e W2 ⟨rfl, hp, hc⟩; (have HP := Lib.hid hp); (have HG := Lib.hid (HG.out.trans hc (fun _ _ h => Or.inl h))); (have HL := Lib.hid (HL.out.chg hc (fun k hk e => by have := (HL.out.lt k hk).1; omega))); (have p2 := hp.cellD); (have p3 := hc.cell (p := ⟨b, l.length - 1, none⟩) (fun e : b = g => by omega) p3); clear hp hc)
              | (go_at_call 80; refine (fail_r g _ toks _ _ hv sv s.i 5 HP.out hi).mono ?_; rintro e W3 ⟨rfl, hp, hc⟩; (have HP := Lib.hid hp); (have HG := Lib.hid (HG.out.trans hc (fun _ _ h => Or.inl h))); (have HL := Lib.hid (HL.out.chg hc (fun k hk e => by have := (HL.out.lt k hk).1; omega))); clear hp hc)
              | (at_builtin; refine wpList_append_own_at _ rfl _ _ 41 rfl base 3 i0 _ 1 8 Tryz.underlying41 hi0 hz0 hz1 hz2 rfl (by decide) _ (l).length ((l).map (Value.int .i64)) rfl (HL.out.alloc _) ⟨_, 0, none⟩ 1 1 [.int .i64 tn] rfl rfl ?c1 ?c2 ?c3 ?c4 ?c5 ?_))
            case c1 => exact World.news_of_block (cs := #[.int .i64 tn]) (t := 3) (fr := (0, 0)) (heap_alloc_new _ _)
            case c2 => simp [Value.oneCell']
            case c3 => (try simp only [maxLen]); (try simp); try omega
            case c4 => (try simp); try omega
            case c5 => have := HG.out.size; simp; omega
            intro v' w2 hown' hgrow _ hat
            have HO2 := Lib.hid hown'
            have HG2 := Lib.hid hgrow
            have HA2 := Lib.hid hat
            clear hown' hgrow hat
            go_wp2
            go_ret
            refine ⟨⟨v', rfl, ?_, ?_, ?_⟩, (HG.out.alloc _).trans (chg_of_grown HG2.out) (fun j _ hj => Or.inr hj)⟩
            · have := HO2.out
              unfold OwnI
              simpa using this
            · rw [HF.out]
              exact (HP.out.below (below_alloc1 _ _)).chg (chg_of_grown HG2.out) (fun k hk e => by have := (HL.out.lt k e).1; omega)
            · rcases HA2.out with h | h
              · exact Or.inl h
              · exact Or.inr ⟨_, h, by have := HG.out.size; simp; omega⟩
          · rw [if_neg (by omega)] at HF
            have hd4 : decide (tn ≤ la) = false := decide_eq_false h4
            clear h1 h2 h4
            go_enter Tryz.func110, Tryz.ntmps110
            go_wp2_with (first
              | (go_at_call 108; refine HNUM.out.mono ?_; rintro e W1 ⟨rfl, hp, hc⟩; (have HP := Lib.hid hp); (have HG := Lib.hid (hc.mono (T := fun k => k = g ∨ (Value.slice (some ⟨b, 0, none⟩) (l).length c).ownBlock = some k) (fun _ _ h => Or.inl h))); (have HL := Lib.hid (HL0.out.chg hc (fun k hk e => by have := (HL0.out.lt k hk).1; omega))); (have p2 := hp.cellD); (have p3 := hc.cell (p := ⟨b, l.length - 1, none⟩) (fun e : b = g => by omega) p3); clear hp hc)
              | (go_at_call 80; refine (fail_r g _ toks _ _ hv sv s.i 7 HP.out hi).mono ?_; rintro e W2 ⟨rfl, hp, hc⟩; (have HP := Lib.hid hp); (have HG := Lib.hid (HG.out.trans hc (fun _ _ h => Or.inl h))); (have HL := Lib.hid (HL.out.chg hc (fun k hk e => by have := (HL.out.lt k hk).1; omega))); (have p2 := hp.cellD); (have p3 := hc.cell (p := ⟨b, l.length - 1, none⟩) (fun e : b = g => by omega) p3); clear hp hc)
              | (go_at_call 80; refine (fail_r g _ toks _ _ hv sv s.i 5 HP.out hi).mono ?_; rintro e W3 ⟨rfl, hp, hc⟩; (have HP := Lib.hid hp); (have HG := Lib.hid (HG.out.trans hc (fun _ _ h => Or.inl h))); (have HL := Lib.hid (HL.out.chg hc (fun k hk e => by have := (HL.out.lt k hk).1; omega))); clear hp hc)
              | (at_builtin; refine wpList_append_own_at _ rfl _ _ 41 rfl base 3 i0 _ 1 8 Tryz.underlying41 hi0 hz0 hz1 hz2 rfl (by decide) _ (l).length ((l).map (Value.int .i64)) rfl (HL.out.alloc _) ⟨_, 0, none⟩ 1 1 [.int .i64 tn] rfl rfl ?c1 ?c2 ?c3 ?c4 ?c5 ?_))
            case c1 => exact World.news_of_block (cs := #[.int .i64 tn]) (t := 3) (fr := (0, 0)) (heap_alloc_new _ _)
            case c2 => simp [Value.oneCell']
            case c3 => (try simp only [maxLen]); (try simp); try omega
            case c4 => (try simp); try omega
            case c5 => have := HG.out.size; simp; omega
            intro v' w2 hown' hgrow _ hat
            have HO2 := Lib.hid hown'
            have HG2 := Lib.hid hgrow
            have HA2 := Lib.hid hat
            clear hown' hgrow hat
            go_wp2
            go_ret
            refine ⟨⟨v', rfl, ?_, ?_, ?_⟩, (HG.out.alloc _).trans (chg_of_grown HG2.out) (fun j _ hj => Or.inr hj)⟩
            · have := HO2.out
              unfold OwnI
              simpa using this
            · rw [HF.out]
              exact (HP.out.below (below_alloc1 _ _)).chg (chg_of_grown HG2.out) (fun k hk e => by have := (HL.out.lt k e).1; omega)
            · rcases HA2.out with h | h
              · exact Or.inl h
              · exact Or.inr ⟨_, h, by have := HG.out.size; simp; omega⟩
    · rw [if_neg h6] at HF
      have hd6 : ((l.length : Int) == 6) = false := by simp; omega
      clear h6
      by_cases h1 : tn < 0
      · rw [if_pos (.inl h1)] at HF
        have hd1 : decide (tn < 0) = true := decide_eq_true h1
        clear h1
        go_enter Tryz.func110, Tryz.ntmps110
        go_wp2_with (first
          | (go_at_call 108; refine HNUM.out.mono ?_; rintro e W1 ⟨rfl, hp, hc⟩; (have HP := Lib.hid hp); (have HG := Lib.hid (hc.mono (T := fun k => k = g ∨ (Value.slice (some ⟨b, 0, none⟩) (l).length c).ownBlock = some k) (fun _ _ h => Or.inl h))); (have HL := Lib.hid (HL0.out.chg hc (fun k hk e => by have := (HL0.out.lt k hk).1; omega))); (have p2 := hp.cellD); (have p3 := hc.cell (p := ⟨b, l.length - 1, none⟩) (fun e : b = g => by omega) p3); clear hp hc)
          | (go_at_call 80; refine (fail_r g _ toks _ _ hv sv s.i 7 HP.out hi).mono ?_; rintro e W2 ⟨rfl, hp, hc⟩; (have HP := Lib.hid hp); (have HG := Lib.hid (HG.out.trans hc (fun _ _ h => Or.inl h))); (have HL := Lib.hid (HL.out.chg hc (fun k hk e => by have := (HL.out.lt k hk).1; omega))); (have p2 := hp.cellD); (have p3 := hc.cell (p := ⟨b, l.length - 1, none⟩) (fun e : b = g => by omega) p3); clear hp hc)
          | (go_at_call 80; refine (fail_r g _ toks _ _ hv sv s.i 5 HP.out hi).mono ?_; rintro e W3 ⟨rfl, hp, hc⟩; (have HP := Lib.hid hp); (have HG := Lib.hid (HG.out.trans hc (fun _ _ h => Or.inl h))); (have HL := Lib.hid (HL.out.chg hc (fun k hk e => by have := (HL.out.lt k hk).1; omega))); clear hp hc)
          | (at_builtin; refine wpList_append_own_at _ rfl _ _ 41 rfl base 3 i0 _ 1 8 Tryz.underlying41 hi0 hz0 hz1 hz2 rfl (by decide) _ (l).length ((l).map (Value.int .i64)) rfl (HL.out.alloc _) ⟨_, 0, none⟩ 1 1 [.int .i64 tn] rfl rfl ?c1 ?c2 ?c3 ?c4 ?c5 ?_))
        case c1 => exact World.news_of_block (cs := #[.int .i64 tn]) (t := 3) (fr := (0, 0)) (heap_alloc_new _ _)
        case c2 => simp [Value.oneCell']
        case c3 => (try simp only [maxLen]); (try simp); try omega
        case c4 => (try simp); try omega
        case c5 => have := HG.out.size; simp; omega
        intro v' w2 hown' hgrow _ hat
        have HO2 := Lib.hid hown'
        have HG2 := Lib.hid hgrow
        have HA2 := Lib.hid hat
        clear hown' hgrow hat
        go_wp2
        go_ret
        refine ⟨⟨v', rfl, ?_, ?_, ?_⟩, (HG.out.alloc _).trans (chg_of_grown HG2.out) (fun j _ hj => Or.inr hj)⟩
        · have := HO2.out
          unfold OwnI
          simpa using this
        · rw [HF.out]
          exact (HP.out.below (below_alloc1 _ _)).chg (chg_of_grown HG2.out) (fun k hk e => by have := (HL.out.lt k e).1; omega)
        · rcases HA2.out with h | h
          · exact Or.inl h
          · exact Or.inr ⟨_, h, by have := HG.out.size; simp; omega⟩
      · have hd1 : decide (tn < 0) = false := decide_eq_false h1
        by_cases h2 : (nd : Int) ≤ tn
        · rw [if_pos (.inr (.inl h2))] at HF
          have hd2 : decide ((nd : Int) ≤ tn) = true := decide_eq_true h2
          clear h1 h2
          go_enter Tryz.func110, Tryz.ntmps110
          go_wp2_with (first
            | (go_at_call 108; refine HNUM.out.mono ?_; rintro e W1 ⟨rfl, hp, hc⟩; (have HP := Lib.hid hp); (have HG := Lib.hid (hc.mono (T := fun k => k = g ∨ (Value.slice (some ⟨b, 0, none⟩) (l).length c).ownBlock = some k) (fun _ _ h => Or.inl h))); (have HL := Lib.hid (HL0.out.chg hc (fun k hk e => by have := (HL0.out.lt k hk).1; omega))); (have p2 := hp.cellD); (have p3 := hc.cell (p := ⟨b, l.length - 1, none⟩) (fun e : b = g => by omega) p3); clear hp hc)
            | (go_at_call 80; refine (fail_r g _ toks _ _ hv sv s.i 7 HP.out hi).mono ?_; rintro e W2 ⟨rfl, hp, hc⟩; (have HP := Lib.hid hp); (have HG := Lib.hid (HG.out.trans hc (fun _ _ h => Or.inl h))); (have HL := Lib.hid (HL.out.chg hc (fun k hk e => by have := (HL.out.lt k hk).1; omega))); (have p2 := hp.cellD); (have p3 := hc.cell (p := ⟨b, l.length - 1, none⟩) (fun e : b = g => by omega) p3); clear hp hc)
            | (go_at_call 80; refine (fail_r g _ toks _ _ hv sv s.i 5 HP.out hi).mono ?_; rintro e W3 ⟨rfl, hp, hc⟩; (have HP := Lib.hid hp); (have HG := Lib.hid (HG.out.trans hc (fun _ _ h => Or.inl h))); (have HL := Lib.hid (HL.out.chg hc (fun k hk e => by have := (HL.out.lt k hk).1; omega))); clear hp hc)
            | (at_builtin; refine wpList_append_own_at _ rfl _ _ 41 rfl base 3 i0 _ 1 8 Tryz.underlying41 hi0 hz0 hz1 hz2 rfl (by decide) _ (l).length ((l).map (Value.int .i64)) rfl (HL.out.alloc _) ⟨_, 0, none⟩ 1 1 [.int .i64 tn] rfl rfl ?c1 ?c2 ?c3 ?c4 ?c5 ?_))
          case c1 => exact World.news_of_block (cs := #[.int .i64 tn]) (t := 3) (fr := (0, 0)) (heap_alloc_new _ _)
          case c2 => simp [Value.oneCell']
          case c3 => (try simp only [maxLen]); (try simp); try omega
          case c4 => (try simp); try omega
          case c5 => have := HG.out.size; simp; omega
          intro v' w2 hown' hgrow _ hat
          have HO2 := Lib.hid hown'
          have HG2 := Lib.hid hgrow
          have HA2 := Lib.hid hat
          clear hown' hgrow hat
          go_wp2
          go_ret
          refine ⟨⟨v', rfl, ?_, ?_, ?_⟩, (HG.out.alloc _).trans (chg_of_grown HG2.out) (fun j _ hj => Or.inr hj)⟩
          · have := HO2.out
            unfold OwnI
            simpa using this
          · rw [HF.out]
            exact (HP.out.below (below_alloc1 _ _)).chg (chg_of_grown HG2.out) (fun k hk e => by have := (HL.out.lt k e).1; omega)
          · rcases HA2.out with h | h
            · exact Or.inl h
            · exact Or.inr ⟨_, h, by have := HG.out.size; simp; omega⟩
        · have hd2 : decide ((nd : Int) ≤ tn) = false := decide_eq_false h2
          by_cases h4 : tn ≤ la
          · rw [if_pos (.inr (.inr ⟨hlp, h4⟩))] at HF
            have hd4 : decide (tn ≤ la) = true := decide_eq_true h4
            clear h1 h2 h4
            go_enter Tryz.func110, Tryz.ntmps110
            go_wp2_with (first
              | (go_at_call 108; refine HNUM.out.mono ?_; rintro e W1 ⟨rfl, hp, hc⟩; (have HP := Lib.hid hp); (have HG := Lib.hid (hc.mono (T := fun k => k = g ∨ (Value.slice (some ⟨b, 0, none⟩) (l).length c).ownBlock = some k) (fun _ _ h => Or.inl h))); (have HL := Lib.hid (HL0.out.chg hc (fun k hk e => by have := (HL0.out.lt k hk).1; omega))); (have p2 := hp.cellD); (have p3 := hc.cell (p := ⟨b, l.length - 1, none⟩) (fun e : b = g => by omega) p3); clear hp hc)
              | (go_at_call 80; refine (fail_r g _ toks _ _ hv sv s.i 7 HP.out hi).mono ?_; rintro e W2 ⟨rfl, hp, hc⟩; (have HP := Lib.hid hp); (have HG := Lib.hid (HG.out.trans hc (fun _ _ h => Or.inl h))); (have HL := Lib.hid (HL.out.chg hc (fun k hk e => by have := (HL.out.lt k hk).1; omega))); (have p2 := hp.cellD); (have p3 := hc.cell (p := ⟨b, l.length - 1, none⟩) (fun e : b = g => by omega) p3); clear hp hc)
              | (go_at_call 80; refine (fail_r g _ toks _ _ hv sv s.i 5 HP.out hi).mono ?_; rintro e W3 ⟨rfl, hp, hc⟩; (have HP := Lib.hid hp); (have HG := Lib.hid (HG.out.trans hc (fun _ _ h => Or.inl h))); (have HL := Lib.hid (HL.out.chg hc (fun k hk e => by have := (HL.out.lt k hk).1; omega))); clear hp hc)
              | (at_builtin; refine wpList_append_own_at _ rfl _ _ 41 rfl base 3 i0 _ 1 8 Tryz.underlying41 hi0 hz0 hz1 hz2 rfl (by decide) _ (l).length ((l).map (Value.int .i64)) rfl (HL.out.alloc _) ⟨_, 0, none⟩ 1 1 [.int .i64 tn] rfl rfl ?c1 ?c2 ?c3 ?c4 ?c5 ?_))
            case c1 => exact World.news_of_block (cs := #[.int .i64 tn]) (t := 3) (fr := (0, 0)) (heap_alloc_new _ _)
            case c2 => simp [Value.oneCell']
            case c3 => (try simp only [maxLen]); (try simp); try omega
            case c4 => (try simp); try omega
            case c5 => have := HG.out.size; simp; omega
            intro v' w2 hown' hgrow _ hat
            have HO2 := Lib.hid hown'
            have HG2 := Lib.hid hgrow
            have HA2 := Lib.hid hat
            clear hown' hgrow hat
            go_wp2
            go_ret
            refine ⟨⟨v', rfl, ?_, ?_, ?_⟩, (HG.out.alloc _).trans (chg_of_grown HG2.out) (fun j _ hj => Or.inr hj)⟩
            · have := HO2.out
              unfold OwnI
              simpa using this
            · rw [HF.out]
              exact (HP.out.below (below_alloc1 _ _)).chg (chg_of_grown HG2.out) (fun k hk e => by have := (HL.out.lt k e).1; omega)
            · rcases HA2.out with h | h
              · exact Or.inl h
              · exact Or.inr ⟨_, h, by have := HG.out.size; simp; omega⟩
          · rw [if_neg (by omega)] at HF
            have hd4 : decide (tn ≤ la) = false := decide_eq_false h4
            clear h1 h2 h4
            go_enter Tryz.func110, Tryz.ntmps110
            go_wp2_with (first
              | (go_at_call 108; refine HNUM.out.mono ?_; rintro e W1 ⟨rfl, hp, hc⟩; (have HP := Lib.hid hp); (have HG := Lib.hid (hc.mono (T := fun k => k = g ∨ (Value.slice (some ⟨b, 0, none⟩) (l).length c).ownBlock = some k) (fun _ _ h => Or.inl h))); (have HL := Lib.hid (HL0.out.chg hc (fun k hk e => by have := (HL0.out.lt k hk).1; omega))); (have p2 := hp.cellD); (have p3 := hc.cell (p := ⟨b, l.length - 1, none⟩) (fun e : b = g => by omega) p3); clear hp hc)
              | (go_at_call 80; refine (fail_r g _ toks _ _ hv sv s.i 7 HP.out hi).mono ?_; rintro e W2 ⟨rfl, hp, hc⟩; (have HP := Lib.hid hp); (have HG := Lib.hid (HG.out.trans hc (fun _ _ h => Or.inl h))); (have HL := Lib.hid (HL.out.chg hc (fun k hk e => by have := (HL.out.lt k hk).1; omega))); (have p2 := hp.cellD); (have p3 := hc.cell (p := ⟨b, l.length - 1, none⟩) (fun e : b = g => by omega) p3); clear hp hc)
              | (go_at_call 80; refine (fail_r g _ toks _ _ hv sv s.i 5 HP.out hi).mono ?_; rintro e W3 ⟨rfl, hp, hc⟩; (have HP := Lib.hid hp); (have HG := Lib.hid (HG.out.trans hc (fun _ _ h => Or.inl h))); (have HL := Lib.hid (HL.out.chg hc (fun k hk e => by have := (HL.out.lt k hk).1; omega))); clear hp hc)
              | (at_builtin; refine wpList_append_own_at _ rfl _ _ 41 rfl base 3 i0 _ 1 8 Tryz.underlying41 hi0 hz0 hz1 hz2 rfl (by decide) _ (l).length ((l).map (Value.int .i64)) rfl (HL.out.alloc _) ⟨_, 0, none⟩ 1 1 [.int .i64 tn] rfl rfl ?c1 ?c2 ?c3 ?c4 ?c5 ?_))
            case c1 => exact World.news_of_block (cs := #[.int .i64 tn]) (t := 3) (fr := (0, 0)) (heap_alloc_new _ _)
            case c2 => simp [Value.oneCell']
            case c3 => (try simp only [maxLen]); (try simp); try omega
            case c4 => (try simp); try omega
            case c5 => have := HG.out.size; simp; omega
            intro v' w2 hown' hgrow _ hat
            have HO2 := Lib.hid hown'
            have HG2 := Lib.hid hgrow
            have HA2 := Lib.hid hat
            clear hown' hgrow hat
            go_wp2
            go_ret
            refine ⟨⟨v', rfl, ?_, ?_, ?_⟩, (HG.out.alloc _).trans (chg_of_grown HG2.out) (fun j _ hj => Or.inr hj)⟩
            · have := HO2.out
              unfold OwnI
              simpa using this
            · rw [HF.out]
              exact (HP.out.below (below_alloc1 _ _)).chg (chg_of_grown HG2.out) (fun k hk e => by have := (HL.out.lt k e).1; omega)
            · rcases HA2.out with h | h
              · exact Or.inl h
              · exact Or.inr ⟨_, h, by have := HG.out.size; simp; omega⟩
end Go.Proofs.YtoahaigfjfeopaaGreatDoor

/- What the reference's parser computes: scopes, values. No program, no memory. -/
namespace Go.Proofs.YtoahaigfjfeopaaGreatDoor

section
variable {toks : List Tok} {s s0 : RS} {nd : Nat} {l : List Int}
theorem number_adv (hT : TokR toks) (hi : s.i < toks.length) (m : Int) (hk : (tkF toks s).kind = 2) : (numberF toks m s).i = s.i + 1 ∧ s.i + 1 < toks.length := by
  have h := next_adv hT hi (by rw [hk]; decide)
  refine ⟨?_, h.2⟩
  unfold numberF
  rw [if_pos (is_num hk)]
  split
  · rw [h.1]
  · unfold nextF
    rw [fail_i, if_pos h.2]
theorem variable_adv (hT : TokR toks) (hi : s.i < toks.length) (hk : (tkF toks s).kind = 2) : (variableF toks nd l s).i = s.i + 1 ∧ s.i + 1 < toks.length := by
  have h := number_adv hT hi 1000000000000 hk
  refine ⟨?_, h.2⟩
  unfold variableF
  dsimp only
  split <;> split <;> (try simp only [fail_i]) <;> exact h.1
/-- Ahead of a round of a scope. -/
structure ScoI (toks : List Tok) (nd : Nat) (s0 : RS) (l : List Int) (s : RS) : Prop where
  kept : Kept s0 s
  len : 1 ≤ l.length ∧ l.length ≤ 7
  good : s0.e = 0 → s.e = 0 → l.length ≤ 6 ∧ (∀ v ∈ l, 0 ≤ v ∧ v < nd) ∧ scopeQ nd (toks.drop s0.i) [] = scopeQ nd (toks.drop s.i) l
  bad : s0.e = 0 → s.e ≠ 0 → scopeQ nd (toks.drop s0.i) [] = .error (s.a, s.e)
/-- One variable more. -/
theorem scope_one (hT : TokR toks) (hi : s.i < toks.length) (he : s.e = 0) (h6 : l.length ≤ 6) (hk : ¬ (l.length ≠ 0 ∧ (tkF toks s).kind ≠ 2)) :
    ((variableF toks nd l s).e = 0 → l.length < 6 ∧ 0 ≤ (tkF toks s).n ∧ (tkF toks s).n < nd ∧ scopeQ nd (toks.drop s.i) l = scopeQ nd (toks.drop (variableF toks nd l s).i) (l ++ [(tkF toks s).n])) ∧
    ((variableF toks nd l s).e ≠ 0 → scopeQ nd (toks.drop s.i) l = .error ((variableF toks nd l s).a, (variableF toks nd l s).e)) := by
  have hv := variable_law hT hi he nd l h6
  have hd := drop_tk hi
  rw [hd] at hv ⊢
  rw [scopeQ, if_neg hk]
  cases hq : varQ nd l (tkF toks s :: toks.drop (s.i + 1)) with
  | error p =>
    obtain ⟨p, x⟩ := p
    rw [hq] at hv
    obtain ⟨h1, h2, h3⟩ := hv
    exact ⟨fun h => absurd (h2.symm.trans h) h3, fun _ => by rw [h1, h2]⟩
  | ok p =>
    obtain ⟨l', r⟩ := p
    rw [hq] at hv
    obtain ⟨h1, h2, rfl, h4, h5, h6', h7⟩ := hv
    refine ⟨fun _ => ⟨h5, h6', h7, ?_⟩, fun h => absurd h1 h⟩
    rw [h4]
theorem sco_first (hT : TokR toks) (hi : s0.i < toks.length) : ScoI toks nd s0 [(tkF toks s0).n] (variableF toks nd [] s0) := by
  refine ⟨variable_kept nd [], ⟨Nat.le_refl _, by simp⟩, fun he h0 => ?_, fun he h0 => ?_⟩
  · have h := (scope_one (nd := nd) (l := []) hT hi he (by simp) (by simp)).1 h0
    exact ⟨by simp, by simpa using ⟨h.2.1, h.2.2.1⟩, h.2.2.2⟩
  · exact (scope_one (nd := nd) (l := []) hT hi he (by simp) (by simp)).2 h0
theorem sco_step (hT : TokR toks) (hi : s.i < toks.length) (h : ScoI toks nd s0 l s) (he : s.e = 0) (hk : (tkF toks s).kind = 2) : ScoI toks nd s0 (l ++ [(tkF toks s).n]) (variableF toks nd l s) := by
  have h6 : s0.e = 0 := by
    by_cases h0 : s0.e = 0
    · exact h0
    · exact absurd he (by rw [(h.kept.2 h0).2]; exact h0)
  obtain ⟨g1, g2, g3⟩ := h.good h6 he
  have ho := scope_one (nd := nd) hT hi he g1 (fun hh => hh.2 hk)
  refine ⟨h.kept.trans (variable_kept nd l), by simp; omega, fun _ h0 => ?_, fun _ h0 => by rw [g3]; exact ho.2 h0⟩
  obtain ⟨k1, k2, k3, k4⟩ := ho.1 h0
  refine ⟨by simp; omega, fun v hv => ?_, by rw [g3, k4]⟩
  rcases List.mem_append.1 hv with hv | hv
  · exact g2 v hv
  · rw [List.mem_singleton] at hv; subst hv; exact ⟨k2, k3⟩
/-- What a scope is, at the end. -/
def ScoP (toks : List Tok) (nd : Nat) (s0 : RS) (l : List Int) (s : RS) : Prop :=
  Kept s0 s ∧ 1 ≤ l.length ∧ l.length ≤ 7 ∧ (s0.e = 0 → Ag toks s (scopeQ nd (toks.drop s0.i) []) (fun l' => l' = l ∧ l.length ≤ 6 ∧ ∀ v ∈ l, 0 ≤ v ∧ v < nd))
theorem sco_bad (h : ScoI toks nd s0 l s) (he : s.e ≠ 0) : ScoP toks nd s0 l s :=
  ⟨h.kept, h.len.1, h.len.2, fun h0 => by rw [h.bad h0 he]; exact ⟨rfl, rfl, he⟩⟩
theorem sco_end (hi : s.i < toks.length) (h : ScoI toks nd s0 l s) (he : s.e = 0) (hk : (tkF toks s).kind ≠ 2) : ScoP toks nd s0 l s := by
  refine ⟨h.kept, h.len.1, h.len.2, fun h0 => ?_⟩
  obtain ⟨g1, g2, g3⟩ := h.good h0 he
  rw [g3, drop_tk hi, scopeQ, if_pos ⟨by have := h.len.1; omega, hk⟩]
  exact ⟨he, (drop_tk hi).symm, rfl, g1, g2⟩
end
end Go.Proofs.YtoahaigfjfeopaaGreatDoor

/- arboristref06.parser: scope. -/
namespace Go.Proofs.YtoahaigfjfeopaaGreatDoor
open Go.RowKit
attribute [local irreducible] wpStill wpLex wpLexO wpPlan Calls

def ScoRel (g base nd : Nat) (w : World) (toks : List Tok) (s0 : RS) (dv hv sv : Value) (gm : Nat) (v : Value) (wr : World) : Prop :=
  ∃ (l : List Int) (s : RS), Hid (OwnI base v l wr) ∧ Hid (RB g wr toks s dv hv sv) ∧ Hid (Chg (fun k => k = g) w wr) ∧ Hid (ScoI toks nd s0 l s) ∧ gm = toks.length - s.i
def ScoR (g base nd : Nat) (w w' : World) (toks : List Tok) (s0 : RS) (dv hv sv : Value) (e : Ending) : Prop :=
  ∃ (l : List Int) (s : RS) (v : Value), e = .returned v ∧ OwnI base v l w' ∧ RB g w' toks s dv hv sv ∧ Chg (fun k => k = g) w w' ∧ ScoP toks nd s0 l s
theorem tok_fit {toks : List Tok} {s : RS} (hT : TokR toks) (hi : s.i < toks.length) : Fit (tkF toks s).n := hT.num _ (tk_mem hi)
set_option maxRecDepth 100000 in
set_option maxHeartbeats 4000000 in
theorem scope_r (g : Nat) (w : World) (toks : List Tok) (s : RS) (DA : Option Addr) (nd Dc : Nat) (hv sv : Value) (hT : TokR toks) (hnd : nd ≤ 140737488355328) (h : RB g w toks s (.slice DA nd Dc) hv sv) :
    Calls Tryz.prog 85 #[.pointer (some ⟨g, 0, none⟩)] w fun e w' => ScoR g w.heap.size nd w w' toks s (.slice DA nd Dc) hv sv e := by
  have how := World.ownsRow_lit (base := w.heap.size) (e := 3) (size := 1) w #[] 0 (Nat.le_refl _) (by decide) rfl
  have HO0 : Hid (OwnI w.heap.size (.slice (some ⟨w.heap.size, 0, none⟩) 0 0) [] (w.alloc (.cells #[] 3))) := Lib.hid how
  have hb := below_alloc1 w (.cells #[] 3)
  have hgw := h.lt
  have HT := Lib.hid hT
  have H0 := Lib.hid (h.below hb)
  have hi := h.idx
  have HV0 := Lib.hid (variable_r g w.heap.size _ toks s DA nd Dc hv sv [] _ (h.below hb) hnd hgw hb.size HO0.out (by simp) (tok_fit hT hi))
  have HB := Lib.hid hb
  clear how h hT hb
  go_enter Tryz.func85, Tryz.ntmps85
  go_wp2_with (go_at_call 110; refine HV0.out.mono ?_; rintro e W1 ⟨⟨v1, rfl, ho1, hp1, _⟩, hc1⟩; (have HO1 := Lib.hid ho1); (have HP1 := Lib.hid hp1); (have HC1 : Hid (Chg (fun k => k = g) w W1) := Lib.hid ((chg_of_below HB.out _).trans hc1 (fun k hk e => by rcases e with e | e; exact e; have := (HO0.out.lt k e).1; omega))); clear ho1 hp1 hc1 HV0)
  clear HO0 H0 HB
  go_loopg [3] (toks.length - (variableF toks nd [] s).i) (fun gm v wr => ScoRel g w.heap.size nd w toks s (.slice DA nd Dc) hv sv gm v wr)
  case atStart => exact ⟨[(tkF toks s).n], _, HO1, HP1, HC1, Lib.hid (sco_first HT.out hi), rfl⟩
  case round =>
    clear HO1 HP1 HC1
    obtain ⟨l, q, HO, HP, HC, HI, hg⟩ := hrel
    have HG := Lib.hid hg
    have p6 := HP.out.cell6
    have hqi := HP.out.idx
    have hgw2 := HP.out.lt
    have hle := HI.out.len
    have hbs := HC.out.size
    clear hg
    by_cases he : q.e = 0
    · have hd0 : (q.e == 0) = true := by simp [he]
      have HE := Lib.hid he
      have his := is_r g wr toks q _ hv sv [] HP.out
      by_cases hk : (tkF toks q).kind = 2
      · rw [is_num hk] at his
        have HIS := Lib.hid his
        have HK := Lib.hid hk
        have HAV := Lib.hid (variable_adv (nd := nd) (l := l) HT.out hqi hk)
        clear he hk his
        go_wp2_with (first
          | (go_at_call 107; refine HIS.out.mono ?_; rintro e W2 ⟨rfl, hb⟩; (have HB2 := Lib.hid hb); (have HP2 := Lib.hid (HP.out.below hb)); (have HO2 := Lib.hid (HO.out.chg (chg_of_below hb (fun _ => False)) (fun _ _ h => h))); clear hb HIS)
          | (go_at_call 110; refine (variable_r g w.heap.size _ toks q DA nd Dc hv sv l _ HP2.out hnd hgw (Nat.le_trans hbs HB2.out.size) HO2.out (by omega) (tok_fit HT.out hqi)).mono ?_; rintro e W3 ⟨⟨v3, rfl, ho3, hp3, _⟩, hc3⟩; (have HO3 := Lib.hid ho3); (have HP3 := Lib.hid hp3); (have HC3 : Hid (Chg (fun k => k = g) w W3) := Lib.hid ((HC.out.thenBelow HB2.out).trans hc3 (fun k hk e => by rcases e with e | e; exact e; have := (HO2.out.lt k e).1; omega))); clear ho3 hp3 hc3))
        go_roundg (toks.length - (variableF toks nd l q).i)
        case rel => exact ⟨l ++ [(tkF toks q).n], _, HO3, HP3, HC3, Lib.hid (sco_step HT.out hqi HI.out HE.out HK.out), rfl⟩
        case measure => have := HG.out; have := HAV.out; omega
      · rw [is_not hk] at his
        have HIS := Lib.hid his
        have HK := Lib.hid hk
        clear he hk his
        go_wp2_with (first
          | (go_at_call 107; refine HIS.out.mono ?_; rintro e W2 ⟨rfl, hb⟩; (have HB2 := Lib.hid hb); (have HP2 := Lib.hid (HP.out.below hb)); (have HO2 := Lib.hid (HO.out.chg (chg_of_below hb (fun _ => False)) (fun _ _ h => h))); clear hb HIS))
        go_ret
        exact ⟨l, q, _, rfl, HO2.out, HP2.out, HC.out.thenBelow HB2.out, sco_end hqi HI.out HE.out HK.out⟩
    · have hd0 : (q.e == 0) = false := by simp [he]
      have HE := Lib.hid he
      clear he
      go_wp2_with fail
      go_ret
      exact ⟨l, q, _, rfl, HO.out, HP.out, HC.out, sco_bad HI.out HE.out⟩
end Go.Proofs.YtoahaigfjfeopaaGreatDoor

/- What the reference's parser computes: rows. No program, no memory. -/
namespace Go.Proofs.YtoahaigfjfeopaaGreatDoor

def preW (ns : List Int) : PR (List Int) → PR (List Int)
  | .ok (l, r) => .ok (ns ++ l, r)
  | .error e => .error e
theorem preW_nil (x : PR (List Int)) : preW [] x = x := by cases x <;> rfl
theorem preW_one (ns : List Int) (n : Int) (x : PR (List Int)) : preW ns (preW [n] x) = preW (ns ++ [n]) x := by cases x <;> simp [preW]
theorem valsQ_cons (doms : List (List Int)) (v : Int) (ss : List Int) (ts : List Tok) : valsQ doms (v :: ss) ts = match numberQ 1000000 ts with
    | .error e => .error e
    | .ok (t, r) => if t.n ∈ nth [] doms v.toNat then preW [t.n] (valsQ doms ss r) else .error (t.at_, 6) := by
  rw [valsQ]
  cases numberQ 1000000 ts with
  | error e => rfl
  | ok p =>
    obtain ⟨t, r⟩ := p
    simp only
    by_cases h : t.n ∈ nth [] doms v.toNat
    · rw [if_pos h, if_pos h]; cases valsQ doms ss r <;> rfl
    · rw [if_neg h, if_neg h]
/-- One value of a row. -/
def valueF (toks : List Tok) (dom : List Int) (s : RS) : RS := if (numberF toks 1000000 s).e = 0 ∧ ¬ (tkF toks s).n ∈ dom then failF toks s.i 6 (numberF toks 1000000 s) else numberF toks 1000000 s
section
variable {toks : List Tok} {s s0 : RS} {doms : List (List Int)} {scope t : List Int}
theorem value_i (dom : List Int) (hi : s.i < toks.length) : (valueF toks dom s).i < toks.length := by
  have h := number_i (toks := toks) (s := s) 1000000 hi
  unfold valueF
  split
  · rw [fail_i]; exact h
  · exact h
theorem value_kept (dom : List Int) : Kept s (valueF toks dom s) := by
  unfold valueF
  split
  · exact (number_kept _).trans (fail_kept _ _)
  · exact number_kept _
/-- Ahead of a round of a row. -/
structure RowI (toks : List Tok) (doms : List (List Int)) (scope : List Int) (s0 : RS) (t : List Int) (s : RS) : Prop where
  kept : Kept s0 s
  len : t.length ≤ scope.length
  good : s0.e = 0 → s.e = 0 → valsQ doms scope (toks.drop s0.i) = preW t (valsQ doms (scope.drop t.length) (toks.drop s.i))
  bad : s0.e = 0 → s.e ≠ 0 → valsQ doms scope (toks.drop s0.i) = .error (s.a, s.e)
theorem row_first : RowI toks doms scope s0 [] s0 := ⟨Kept.refl _, Nat.zero_le _, fun _ _ => by rw [preW_nil]; rfl, fun h h' => absurd h h'⟩
theorem row_step (hT : TokR toks) (hi : s.i < toks.length) (h : RowI toks doms scope s0 t s) (he : s.e = 0) (hl : t.length < scope.length) :
    RowI toks doms scope s0 (t ++ [(tkF toks s).n]) (valueF toks (nth [] doms (nth 0 scope t.length).toNat) s) := by
  have hn := number_law hT hi he 1000000
  have h0 : s0.e = 0 := by
    by_cases h0 : s0.e = 0
    · exact h0
    · exact absurd he (by rw [(h.kept.2 h0).2]; exact h0)
  have hq := h.good h0 he
  rw [drop_cons scope 0 t.length hl, valsQ_cons] at hq
  have hlen : (t ++ [(tkF toks s).n]).length ≤ scope.length := by simp; omega
  have hk := h.kept.trans (value_kept (toks := toks) (s := s) (nth [] doms (nth 0 scope t.length).toNat))
  cases hq1 : numberQ 1000000 (toks.drop s.i) with
  | error p =>
    obtain ⟨p, x⟩ := p
    rw [hq1] at hn hq
    obtain ⟨h1, h2, h3⟩ := hn
    have hne : (numberF toks 1000000 s).e ≠ 0 := by rw [h2]; exact h3
    have e : valueF toks (nth [] doms (nth 0 scope t.length).toNat) s = numberF toks 1000000 s := by unfold valueF; rw [if_neg (fun hh => hne hh.1)]
    rw [e] at hk ⊢
    refine ⟨hk, hlen, fun _ hz => absurd hz hne, fun _ _ => ?_⟩
    rw [hq, h1, h2]; rfl
  | ok p =>
    obtain ⟨u, r⟩ := p
    rw [hq1] at hn hq
    obtain ⟨h1, h2, rfl, h4, _, _⟩ := hn
    simp only at hq
    by_cases hm : (tkF toks s).n ∈ nth [] doms (nth 0 scope t.length).toNat
    · have e : valueF toks (nth [] doms (nth 0 scope t.length).toNat) s = numberF toks 1000000 s := by unfold valueF; rw [if_neg (fun hh => hh.2 hm)]
      rw [e] at hk ⊢
      refine ⟨hk, hlen, fun _ _ => ?_, fun _ hz => absurd h1 hz⟩
      rw [hq, if_pos hm, preW_one, List.length_append, h2]; rfl
    · have e : valueF toks (nth [] doms (nth 0 scope t.length).toNat) s = ⟨(numberF toks 1000000 s).i, (tkF toks s).at_, 6⟩ := by unfold valueF; rw [if_pos ⟨h1, hm⟩, fail_ok _ _ h1]; rfl
      rw [e] at hk ⊢
      refine ⟨hk, hlen, fun _ hz => absurd hz (show (6 : Int) ≠ 0 by decide), fun _ _ => ?_⟩
      rw [hq, if_neg hm]; rfl
/-- What stands behind a row's values. -/
def rowF (toks : List Tok) (ahead : List (List Int)) (s0 : RS) (t : List Int) (s : RS) : RS := if 0 < ahead.length ∧ 0 ≤ cmpL (nth [] ahead (ahead.length - 1)) t then failF toks s0.i 6 s else s
def RowP (toks : List Tok) (doms : List (List Int)) (scope : List Int) (ahead : List (List Int)) (s0 : RS) (t : List Int) (s : RS) : Prop :=
  Kept s0 s ∧ t.length ≤ scope.length ∧ (s0.e = 0 → Ag toks s (rowQ doms scope ahead (toks.drop s0.i)) (fun r => r = ahead ++ [t] ∧ t.length = scope.length))
theorem row_end (hi0 : s0.i < toks.length) {ahead : List (List Int)} (h : RowI toks doms scope s0 t s) (hx : s.e = 0 → t.length = scope.length) : RowP toks doms scope ahead s0 t (rowF toks ahead s0 t s) := by
  have hkr : Kept s (rowF toks ahead s0 t s) := by unfold rowF; split; exact fail_kept _ _; exact Kept.refl _
  refine ⟨h.kept.trans hkr, h.len, fun h0 => ?_⟩
  by_cases he : s.e = 0
  · have hq := h.good h0 he
    rw [hx he, List.drop_length] at hq
    have hv : valsQ doms scope (toks.drop s0.i) = .ok (t, toks.drop s.i) := by rw [hq]; simp [valsQ, preW]
    rw [rowQ, hv]
    simp only
    unfold rowF
    by_cases hc : ahead.length = 0 ∨ cmpL (nth [] ahead (ahead.length - 1)) t < 0
    · rw [if_pos hc, if_neg (by omega)]
      exact ⟨he, rfl, rfl, hx he⟩
    · rw [if_neg hc, if_pos (by omega), fail_ok _ _ he]
      refine ⟨?_, rfl, by decide⟩
      rw [drop_tk hi0]; rfl
  · have hb := h.bad h0 he
    have e : rowF toks ahead s0 t s = s := by unfold rowF; rw [fail_no _ _ he]; split <;> rfl
    rw [e, rowQ, hb]
    exact ⟨rfl, rfl, he⟩
end
end Go.Proofs.YtoahaigfjfeopaaGreatDoor
