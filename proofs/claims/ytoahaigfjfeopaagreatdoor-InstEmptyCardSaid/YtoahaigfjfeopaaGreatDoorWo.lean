/- scan.left, number and token. -/
import Derived.Test.YtoahaigfjfeopaaGreatDoorWn
import Derived.Lib.IndexBytes
import Derived.Lib.AtoiErrMem
namespace Go.Proofs.YtoahaigfjfeopaaGreatDoor
open Go.RowKit

def isBlank (c : UInt8) : Bool := decide (c.toNat = 32 ∨ c.toNat = 9 ∨ c.toNat = 10)
def isSign (c : UInt8) : Bool := decide (c.toNat = 58 ∨ c.toNat = 44 ∨ c.toNat = 59)
theorem u8_eq (c : UInt8) (k : Nat) (hk : k < 256) : (UInt8.ofNat k == c) = decide (c.toNat = k) := by
  rw [Bool.eq_iff_iff, beq_iff_eq, decide_eq_true_iff]
  constructor
  · intro h; rw [← h]; simp; omega
  · intro h; rw [← h]; simp
theorem index_three (a b d : Nat) (ha : a < 256) (hb : b < 256) (hd : d < 256) (c : UInt8) : decide (0 ≤ Lib.indexByte [UInt8.ofNat a, UInt8.ofNat b, UInt8.ofNat d] c) = decide (c.toNat = a ∨ c.toNat = b ∨ c.toNat = d) := by
  simp only [Lib.indexByte, u8_eq c _ ha, u8_eq c _ hb, u8_eq c _ hd]
  by_cases h1 : c.toNat = a
  · simp [h1]
  · by_cases h2 : c.toNat = b
    · subst h2; simp [h1]
    · by_cases h3 : c.toNat = d
      · subst h3; simp [h1, h2]
      · simp [h1, h2, h3]
theorem index_blank (c : UInt8) : decide (0 ≤ Lib.indexByte [32, 9, 10] c) = isBlank c := index_three 32 9 10 (by omega) (by omega) (by omega) c
theorem index_sign (c : UInt8) : decide (0 ≤ Lib.indexByte [58, 44, 59] c) = isSign c := index_three 58 44 59 (by omega) (by omega) (by omega) c

/-- What ParseInt's errors are made of. -/
structure Env0 (w : World) : Prop where
  syn : ∃ tp p, w.var? Tryz.prog "strconv.ErrSyntax" = some #[.iface tp p]
  rng : ∃ tp p, w.var? Tryz.prog "strconv.ErrRange" = some #[.iface tp p]

theorem var_kept {P : Program} {w w' : World} {B : Nat} {name : String} {g : Nat} (hg : P.globalNamed name = some g) (hB : g < B) (hb : Below B w w') : w'.var? P name = w.var? P name := by
  simp only [World.var?, hg, Option.bind_some]
  rw [hb.block g hB]
theorem Env0.below {w w' : World} {B : Nat} (h : Env0 w) (hb : Below B w w') (hB : 8 ≤ B) : Env0 w' where
  syn := by obtain ⟨tp, p, h1⟩ := h.syn; exact ⟨tp, p, (var_kept (g := 4) (by kernel_rfl) (by omega) hb).trans h1⟩
  rng := by obtain ⟨tp, p, h1⟩ := h.rng; exact ⟨tp, p, (var_kept (g := 5) (by kernel_rfl) (by omega) hb).trans h1⟩

set_option maxRecDepth 100000 in
theorem left_any (c : UInt8) (r : List UInt8) (w : World) (hl : (c :: r).length ≤ 140737488355328) : Calls Tryz.prog 67 #[.string ⟨(c :: r).toArray⟩] w fun e w' => e = .returned (.int .i64 (leftP (c :: r))) ∧ w = w' := by
  have hb : ∀ h', (ByteArray.mk (c :: r).toArray)[0]'h' = c := byte_nth (c :: r) 0 (by simp)
  have hi := Lib.hid (index_blank c)
  have HP : Hid (leftP (c :: r) = if isBlank c = true then 1 else if c.toNat = 35 then runP notEol (c :: r) else 0) := Lib.hid (by simp [leftP, isBlank])
  have h0 : 0 < (c :: r).length := by simp
  generalize c :: r = l at *
  have hrun := Lib.hid (run_eol l w hl)
  cases hbl : isBlank c
  · have hi' : ¬ 0 ≤ Lib.indexByte [32, 9, 10] c := of_decide_eq_false (hi.out.trans hbl)
    by_cases h35 : c.toNat = 35
    · have hq : ((c.toNat : Int) == 35) = true := by simp; omega
      have H35 := Lib.hid h35
      clear h35
      go_enter Tryz.func67, Tryz.ntmps67
      go_wp2_with (first
        | (go_at_call 94; refine (indexByte_any [32, 9, 10] _ _).mono ?_; rintro e w' ⟨rfl, rfl⟩)
        | (go_at_call 95; refine hrun.out.mono ?_; rintro e w' ⟨rfl, rfl⟩))
      go_ret
      exact ⟨ret_int (by rw [HP.out, if_neg (by rw [hbl]; decide), if_pos H35.out]), rfl⟩
    · have hq : ((c.toNat : Int) == 35) = false := by simp; omega
      go_enter Tryz.func67, Tryz.ntmps67
      go_wp2_with (first
        | (go_at_call 94; refine (indexByte_any [32, 9, 10] _ _).mono ?_; rintro e w' ⟨rfl, rfl⟩)
        | (go_at_call 95; refine hrun.out.mono ?_; rintro e w' ⟨rfl, rfl⟩))
      go_ret
      exact ⟨ret_int (by rw [HP.out, if_neg (by rw [hbl]; decide), if_neg h35]; rfl), rfl⟩
  · have hi' : 0 ≤ Lib.indexByte [32, 9, 10] c := of_decide_eq_true (hi.out.trans hbl)
    have Hbl := Lib.hid hbl
    clear hbl
    go_enter Tryz.func67, Tryz.ntmps67
    go_wp2_with (first
      | (go_at_call 94; refine (indexByte_any [32, 9, 10] _ _).mono ?_; rintro e w' ⟨rfl, rfl⟩)
      | (go_at_call 95; refine hrun.out.mono ?_; rintro e w' ⟨rfl, rfl⟩))
    go_ret
    exact ⟨ret_int (by rw [HP.out, if_pos Hbl.out]; rfl), rfl⟩

theorem trim_minus (l : List UInt8) : Lib.trimPrefix l [45] = l.drop (if l.head? = some 45 then 1 else 0) := by
  cases l with
  | nil => simp [Lib.trimPrefix, Lib.hasPrefix]
  | cons c r =>
    by_cases h : c = 45
    · subst h; simp [Lib.trimPrefix, Lib.hasPrefix]
    · have h' : ¬ 45 = c := fun e => h e.symm
      simp [Lib.trimPrefix, Lib.hasPrefix, h, h']
theorem extract_take (l : List UInt8) (k : Nat) : (ByteArray.mk l.toArray).extract 0 k = ByteArray.mk (l.take k).toArray := by
  apply ByteArray.ext
  apply Array.ext'
  simp
theorem extract_drop (l : List UInt8) (k : Nat) : (ByteArray.mk l.toArray).extract k l.length = ByteArray.mk (l.drop k).toArray := by
  apply ByteArray.ext
  apply Array.ext'
  simp [List.take_of_length_le]

theorem below_bytes {w w' : World} (h : w' = w ∨ ∃ t, w' = Lib.bytesWorld w 5 t) : Below w.heap.size w w' := by
  rcases h with rfl | ⟨t, rfl⟩
  · exact Below.refl _ _
  · exact Lib.bytesWorld_below w _ t
theorem parse_ok (l : List UInt8) (v : Int) (w : World) (hl : l.length ≤ 140737488355328) (h : Lib.parseIntB 64 l = .ok v) :
    Calls Tryz.prog 116 #[.string ⟨l.toArray⟩, .int .i64 10, .int .i64 64] w fun e w' => e = .returned (.tuple #[.int .i64 v, .nilIface]) ∧ Below w.heap.size w w' :=
  (Tryz.strconv_ParseInt_10_at64_ok ⟨l.toArray⟩ (by rw [show (ByteArray.mk l.toArray).size = l.length by simp [ByteArray.size]]; omega) v h w).mono fun _ _ ⟨he, hb⟩ => ⟨he, below_bytes hb⟩
theorem parse_bad (l : List UInt8) (w : World) (hl : l.length ≤ 140737488355328) (hE : Env0 w) (h : Lib.parseIntB 64 l = .«syntax» ∨ Lib.parseIntB 64 l = .range) :
    Calls Tryz.prog 116 #[.string ⟨l.toArray⟩, .int .i64 10, .int .i64 64] w fun e w' => ∃ x N, e = .returned (.tuple #[.int .i64 x, .iface 157 (.pointer (some ⟨N, 0, none⟩))]) ∧ Below w.heap.size w w' := by
  have hs : (ByteArray.mk l.toArray).size ≤ 281474976710656 := by rw [show (ByteArray.mk l.toArray).size = l.length by simp [ByteArray.size]]; omega
  rcases h with h | h
  · obtain ⟨tp, p, hv⟩ := hE.syn
    refine (Tryz.strconv_ParseInt_10_at64_syntax_var ⟨l.toArray⟩ hs h tp p w hv).mono ?_
    rintro e w' ⟨N, rfl, _, _, hb⟩
    exact ⟨_, N, rfl, hb⟩
  · obtain ⟨tp, p, hv⟩ := hE.rng
    refine (Tryz.strconv_ParseInt_10_at64_range_var ⟨l.toArray⟩ hs h tp p w hv).mono ?_
    rintro e w' ⟨N, rfl, _, _, hb⟩
    exact ⟨_, N, rfl, hb⟩

/-- What scan.number answers. -/
def numR (l : List UInt8) : Value := match numP l with | .ok (n, k) => .tuple #[.int .i64 n, .int .i64 k, .int .i64 0] | .error x => .tuple #[.int .i64 0, .int .i64 0, .int .i64 x]

set_option maxRecDepth 100000 in
theorem number_any (l : List UInt8) (w : World) (hE : Env0 w) (hl : l.length ≤ 140737488355328) : Calls Tryz.prog 99 #[.string ⟨l.toArray⟩] w fun e w' => e = .returned (numR l) ∧ Below w.heap.size w w' := by
  obtain ⟨m, hm⟩ : ∃ m, (if l.head? = some 45 then 1 else 0) = m := ⟨_, rfl⟩
  obtain ⟨d, hd⟩ : ∃ d, l.drop m = d := ⟨_, rfl⟩
  have htr : Hid (∀ W, Calls Tryz.prog 115 #[.string ⟨l.toArray⟩, .string ⟨[45].toArray⟩] W fun e w' => e = .returned (.string ⟨d.toArray⟩) ∧ W = w') := by
    apply Lib.hid
    intro W
    refine (Tryz.strings_TrimPrefix ⟨l.toArray⟩ ⟨[45].toArray⟩ W).mono ?_
    rintro e w' ⟨rfl, rfl⟩
    exact ⟨ret_str (by rw [show (ByteArray.mk l.toArray).data.toList = l from rfl, show (ByteArray.mk [45].toArray).data.toList = [45] from rfl, trim_minus, hm, hd]), rfl⟩
  have hm1 : m ≤ 1 := by rw [← hm]; split <;> omega
  have hml : m ≤ l.length := by rw [← hm]; cases l <;> simp; split <;> omega
  have hdl : d.length + m = l.length := by rw [← hd, List.length_drop]; omega
  have hdl1 : d.length ≤ 140737488355328 := by omega
  have hrun0 := run_digit d w hdl1
  have hrl := runP_le isDigit d
  obtain ⟨k, hk⟩ : ∃ k, runP isDigit d = k := ⟨_, rfl⟩
  rw [hk] at hrun0 hrl
  have hrun := Lib.hid hrun0
  obtain ⟨ds, hds⟩ : ∃ ds, d.take k = ds := ⟨_, rfl⟩
  have hex : (ByteArray.mk d.toArray).extract 0 k = ByteArray.mk ds.toArray := by rw [extract_take, hds]
  have hdsl : ds.length = k := by rw [← hds, List.length_take]; omega
  have hnum : numP l = (if ds = [] ∨ ds.head? = some 48 ∧ 1 < ds.length + m then .error 2 else match Lib.parseIntB 64 (l.take (m + ds.length)) with | .ok v => if 1000000000000 < v ∨ v < -1000000000000 then .error 4 else .ok (v, m + ds.length) | _ => .error 4) := by
    (unfold numP; rw [hm]; show (if _ then _ else _) = _; simp only [hd, hk, hds]; rfl)
  obtain ⟨nm, hnm⟩ : ∃ nm, l.take (m + ds.length) = nm := ⟨_, rfl⟩
  have hex2 : (ByteArray.mk l.toArray).extract 0 (m + ds.length) = ByteArray.mk nm.toArray := by rw [extract_take, hnm]
  have hml2 : m + ds.length ≤ l.length := by omega
  have hnml : nm.length ≤ 140737488355328 := by rw [← hnm, List.length_take]; omega
  rw [hnm] at hnum
  have hms : (l.length : Int) - (d.length : Int) = (m : Int) := by omega
  have HN := Lib.hid hnum
  have hkd : k ≤ d.length := hrl
  have HE := Lib.hid hE
  have hdsl1 : ds.length ≤ k := by omega
  have hdsl2 : k ≤ ds.length := by omega
  clear hm hd hdl hrl hk hds hdsl hnum hnm hrun0 hE
  cases ds with
  | nil =>
    go_enter Tryz.func99, Tryz.ntmps99
    go_wp2_with (first
      | (go_at_call 115; refine (htr.out _).mono ?_; rintro e w' ⟨rfl, rfl⟩)
      | (go_at_call 95; refine hrun.out.mono ?_; rintro e w' ⟨rfl, rfl⟩))
    go_ret3
    exact ⟨by unfold numR; rw [HN.out]; rfl, Below.refl _ _⟩
  | cons a r =>
    rw [List.length_cons] at hex2 hml2 hdsl1 hdsl2
    have ha : ∀ h', (ByteArray.mk (a :: r).toArray)[0]'h' = a := byte_nth (a :: r) 0 (by simp)
    by_cases hz : a.toNat = 48 ∧ 1 < (a :: r).length + m
    · obtain ⟨hz1, hz2⟩ := hz
      have hq : ((a.toNat : Int) == 48) = true := by simp; omega
      have hq2 : 1 < r.length + 1 + m := by simpa using hz2
      have HZ : Hid (numP l = .error 2) := Lib.hid (by
        have e : a = 48 := UInt8.toNat_inj.1 hz1
        rw [HN.out, if_pos (.inr ⟨by rw [e]; rfl, hz2⟩)])
      clear hz1 hz2
      go_enter Tryz.func99, Tryz.ntmps99
      go_wp2_with (first
        | (go_at_call 115; refine (htr.out _).mono ?_; rintro e w' ⟨rfl, rfl⟩)
        | (go_at_call 95; refine hrun.out.mono ?_; rintro e w' ⟨rfl, rfl⟩))
      go_ret3
      exact ⟨by unfold numR; rw [HZ.out]; rfl, Below.refl _ _⟩
    · have hN : numP l = match Lib.parseIntB 64 nm with | .ok v => if 1000000000000 < v ∨ v < -1000000000000 then .error 4 else .ok (v, m + (a :: r).length) | _ => .error 4 := by
        rw [HN.out, if_neg]
        rintro (h | ⟨h, h2⟩)
        · cases h
        · apply hz
          rw [List.head?_cons] at h
          injection h with h
          exact ⟨by rw [h]; rfl, h2⟩
      have HN' := Lib.hid hN
      have hzz : (a.toNat : Int) = 48 → (r.length : Int) + 1 + m ≤ 1 := by
        intro h
        have : ¬ 1 < (a :: r).length + m := fun h2 => hz ⟨by omega, h2⟩
        rw [List.length_cons] at this
        omega
      clear hz hN
      by_cases hz : a.toNat = 48
      · have hq : ((a.toNat : Int) == 48) = true := by simp; omega
        have hzl := hzz (by omega)
        clear hzz hz
        cases hp : Lib.parseIntB 64 nm with
        | ok v =>
          have hpi := Lib.hid (parse_ok nm v w (by omega) hp)
          by_cases hv : 1000000000000 < v ∨ v < -1000000000000
          · have HZ : Hid (numR l = .tuple #[.int .i64 0, .int .i64 0, .int .i64 4]) := Lib.hid (by unfold numR; rw [HN'.out, hp]; simp only [if_pos hv])
            clear hp HN'
            go_enter Tryz.func99, Tryz.ntmps99
            go_wp2_with (first
              | (go_at_call 115; refine (htr.out _).mono ?_; rintro e w' ⟨rfl, rfl⟩)
              | (go_at_call 95; refine hrun.out.mono ?_; rintro e w' ⟨rfl, rfl⟩)
              | (go_at_call 116; refine hpi.out.mono ?_; rintro e w' ⟨rfl, hb⟩; have hb' := Lib.hid hb; clear hb))
            all_goals first | (exfalso; omega) | skip
            all_goals go_ret3
            all_goals exact ⟨by rw [HZ.out]; rfl, hb'.out⟩
          · have HZ : Hid (numR l = .tuple #[.int .i64 v, .int .i64 ((m + (r.length + 1) : Nat) : Int), .int .i64 0]) := Lib.hid (by unfold numR; rw [HN'.out, hp]; simp only [if_neg hv]; rfl)
            have hv1 : v ≤ 1000000000000 := by omega
            have hv2 : -1000000000000 ≤ v := by omega
            clear hp HN' hv
            go_enter Tryz.func99, Tryz.ntmps99
            go_wp2_with (first
              | (go_at_call 115; refine (htr.out _).mono ?_; rintro e w' ⟨rfl, rfl⟩)
              | (go_at_call 95; refine hrun.out.mono ?_; rintro e w' ⟨rfl, rfl⟩)
              | (go_at_call 116; refine hpi.out.mono ?_; rintro e w' ⟨rfl, hb⟩; have hb' := Lib.hid hb; clear hb))
            go_ret3
            exact ⟨by rw [HZ.out]; go_num, hb'.out⟩
        | «syntax» =>
          have hpi := Lib.hid (parse_bad nm w (by omega) HE.out (.inl hp))
          have HZ : Hid (numR l = .tuple #[.int .i64 0, .int .i64 0, .int .i64 4]) := Lib.hid (by unfold numR; rw [HN'.out, hp])
          clear hp HN'
          go_enter Tryz.func99, Tryz.ntmps99
          go_wp2_with (first
            | (go_at_call 115; refine (htr.out _).mono ?_; rintro e w' ⟨rfl, rfl⟩)
            | (go_at_call 95; refine hrun.out.mono ?_; rintro e w' ⟨rfl, rfl⟩)
            | (go_at_call 116; refine hpi.out.mono ?_; rintro e w' ⟨x, N, rfl, hb⟩; have hb' := Lib.hid hb; clear hb))
          go_ret3
          exact ⟨by rw [HZ.out]; rfl, hb'.out⟩
        | range =>
          have hpi := Lib.hid (parse_bad nm w (by omega) HE.out (.inr hp))
          have HZ : Hid (numR l = .tuple #[.int .i64 0, .int .i64 0, .int .i64 4]) := Lib.hid (by unfold numR; rw [HN'.out, hp])
          clear hp HN'
          go_enter Tryz.func99, Tryz.ntmps99
          go_wp2_with (first
            | (go_at_call 115; refine (htr.out _).mono ?_; rintro e w' ⟨rfl, rfl⟩)
            | (go_at_call 95; refine hrun.out.mono ?_; rintro e w' ⟨rfl, rfl⟩)
            | (go_at_call 116; refine hpi.out.mono ?_; rintro e w' ⟨x, N, rfl, hb⟩; have hb' := Lib.hid hb; clear hb))
          go_ret3
          exact ⟨by rw [HZ.out]; rfl, hb'.out⟩
      · have hq : ((a.toNat : Int) == 48) = false := by simp; omega
        clear hzz hz
        cases hp : Lib.parseIntB 64 nm with
        | ok v =>
          have hpi := Lib.hid (parse_ok nm v w (by omega) hp)
          by_cases hv : 1000000000000 < v ∨ v < -1000000000000
          · have HZ : Hid (numR l = .tuple #[.int .i64 0, .int .i64 0, .int .i64 4]) := Lib.hid (by unfold numR; rw [HN'.out, hp]; simp only [if_pos hv])
            clear hp HN'
            go_enter Tryz.func99, Tryz.ntmps99
            go_wp2_with (first
              | (go_at_call 115; refine (htr.out _).mono ?_; rintro e w' ⟨rfl, rfl⟩)
              | (go_at_call 95; refine hrun.out.mono ?_; rintro e w' ⟨rfl, rfl⟩)
              | (go_at_call 116; refine hpi.out.mono ?_; rintro e w' ⟨rfl, hb⟩; have hb' := Lib.hid hb; clear hb))
            all_goals first | (exfalso; omega) | skip
            all_goals go_ret3
            all_goals exact ⟨by rw [HZ.out]; rfl, hb'.out⟩
          · have HZ : Hid (numR l = .tuple #[.int .i64 v, .int .i64 ((m + (r.length + 1) : Nat) : Int), .int .i64 0]) := Lib.hid (by unfold numR; rw [HN'.out, hp]; simp only [if_neg hv]; rfl)
            have hv1 : v ≤ 1000000000000 := by omega
            have hv2 : -1000000000000 ≤ v := by omega
            clear hp HN' hv
            go_enter Tryz.func99, Tryz.ntmps99
            go_wp2_with (first
              | (go_at_call 115; refine (htr.out _).mono ?_; rintro e w' ⟨rfl, rfl⟩)
              | (go_at_call 95; refine hrun.out.mono ?_; rintro e w' ⟨rfl, rfl⟩)
              | (go_at_call 116; refine hpi.out.mono ?_; rintro e w' ⟨rfl, hb⟩; have hb' := Lib.hid hb; clear hb))
            go_ret3
            exact ⟨by rw [HZ.out]; go_num, hb'.out⟩
        | «syntax» =>
          have hpi := Lib.hid (parse_bad nm w (by omega) HE.out (.inl hp))
          have HZ : Hid (numR l = .tuple #[.int .i64 0, .int .i64 0, .int .i64 4]) := Lib.hid (by unfold numR; rw [HN'.out, hp])
          clear hp HN'
          go_enter Tryz.func99, Tryz.ntmps99
          go_wp2_with (first
            | (go_at_call 115; refine (htr.out _).mono ?_; rintro e w' ⟨rfl, rfl⟩)
            | (go_at_call 95; refine hrun.out.mono ?_; rintro e w' ⟨rfl, rfl⟩)
            | (go_at_call 116; refine hpi.out.mono ?_; rintro e w' ⟨x, N, rfl, hb⟩; have hb' := Lib.hid hb; clear hb))
          go_ret3
          exact ⟨by rw [HZ.out]; rfl, hb'.out⟩
        | range =>
          have hpi := Lib.hid (parse_bad nm w (by omega) HE.out (.inr hp))
          have HZ : Hid (numR l = .tuple #[.int .i64 0, .int .i64 0, .int .i64 4]) := Lib.hid (by unfold numR; rw [HN'.out, hp])
          clear hp HN'
          go_enter Tryz.func99, Tryz.ntmps99
          go_wp2_with (first
            | (go_at_call 115; refine (htr.out _).mono ?_; rintro e w' ⟨rfl, rfl⟩)
            | (go_at_call 95; refine hrun.out.mono ?_; rintro e w' ⟨rfl, rfl⟩)
            | (go_at_call 116; refine hpi.out.mono ?_; rintro e w' ⟨x, N, rfl, hb⟩; have hb' := Lib.hid hb; clear hb))
          go_ret3
          exact ⟨by rw [HZ.out]; rfl, hb'.out⟩
end Go.Proofs.YtoahaigfjfeopaaGreatDoor
