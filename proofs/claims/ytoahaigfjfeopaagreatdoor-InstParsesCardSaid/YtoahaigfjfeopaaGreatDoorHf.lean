/- Texts joined: Pn Po Pp Pr Ps Pt Pu Wbb Pz Wbg Wbh. -/
import Derived.Test.YtoahaigfjfeopaaGreatDoorHe
import Derived.Test.YtoahaigfjfeopaaGreatDoorHd
import Derived.Test.YtoahaigfjfeopaaGreatDoorHa
/- What is printed of a right instance is read as that instance. -/
namespace Go.Proofs.YtoahaigfjfeopaaGreatDoor

/-- A statement of a text. -/
inductive St where
  | dom (d : List Int)
  | hard (c : Con)
  | soft (s : Sft)
def add (x : Ins) : St → Ins
  | .dom d => { x with doms := x.doms ++ [d] }
  | .hard c => { x with hard := x.hard ++ [c] }
  | .soft s => { x with soft := x.soft ++ [s] }
def stK : St → List Tok
  | .dom d => domK d ++ [sT 59]
  | .hard c => hardK c ++ [sT 59]
  | .soft s => softK s ++ [sT 59]
def stP : St → List UInt8
  | .dom d => varT ++ numsP d ++ endT
  | .hard c => hardP c ++ endT
  | .soft s => softP s ++ endT
/-- It may stand behind what is told. -/
def okSt (x : Ins) : St → Prop
  | .dom d => x.doms.length < 40 ∧ domainB d = true
  | .hard c => x.hard.length < 200 ∧ hardB x c = true
  | .soft s => x.soft.length < 200 ∧ softB x s = true
theorem domsOk_add {x : Ins} {st : St} (h : DomsOk x.doms) (hs : okSt x st) : DomsOk (add x st).doms := by
  cases st with
  | dom d =>
    refine ⟨by have := hs.1; simp [add]; omega, fun e he => ?_⟩
    rcases List.mem_append.1 he with he | he
    · exact h.2 e he
    · rw [List.mem_singleton.1 he]; exact hs.2
  | hard c => exact h
  | soft s => exact h
theorem domain_small {d : List Int} (h : domainB d = true) : Small6 d := by
  intro n hn
  obtain ⟨k, hk, rfl⟩ := mem_nth 0 hn
  exact small_of_fit6 (domainB_fits h k hk)
theorem stmtQ_c {x : Ins} {st : St} {c r : List Tok} (hd : DomsOk x.doms) (hs : okSt x st) (h : c.map er = stK st) : stmtQ x (c ++ r) = .ok (add x st, r) := by
  cases st with
  | dom d =>
    obtain ⟨c1, c2, rfl, hc1, hc2⟩ := map_app_er h
    obtain ⟨t, c3, rfl, ht, hc3⟩ := map_cons_er hc1
    obtain ⟨u, c4, rfl, hu, hc4⟩ := map_cons_er hc2
    obtain rfl := map_nil_er hc4
    obtain ⟨hl, hdm⟩ := hs
    have hdm' := hdm
    simp only [domainB, Bool.and_eq_true, decide_eq_true_eq] at hdm'
    have hw := er_word ht
    have hdq := domQ_c d [] c3 (u :: r) hc3 (by simpa using hdm'.1.1.1.2) (by simpa using hdm'.1.1.2) (domain_small hdm) (by intro e; rw [List.nil_append] at e; rw [e] at hdm'; simp at hdm') ⟨u, r, rfl, by rw [(er_sign hu).1]; decide⟩
    rw [List.nil_append] at hdq
    have := ((stmtQ_var (x := x) (t := t) (r := c3 ++ u :: r) (r' := u :: r) (r2 := r) (e := (0, 0)) (u := ()) hw.1 hw.2).2 (by omega)).2 d hdq
    have h2 := this.2 (signQ_c hu)
    simpa [add] using h2
  | hard k =>
    obtain ⟨c1, c2, rfl, hc1, hc2⟩ := map_app_er h
    obtain ⟨t, c3, rfl, ht, hc3⟩ := map_cons_er hc1
    obtain ⟨u, c4, rfl, hu, hc4⟩ := map_cons_er hc2
    obtain rfl := map_nil_er hc4
    obtain ⟨hl, hb⟩ := hs
    have hb' := hb
    simp only [hardB, Bool.and_eq_true, decide_eq_true_eq] at hb'
    have hw := er_word ht
    obtain ⟨w1, w2, w3⟩ := word_at k.kind hb'.1.1.1.2 hb'.1.1.2
    have hq := hardQ_c (r := r) hd hb hu hc3
    have := ((stmtQ_hard (x := x) (t := t) (r := c3 ++ u :: r) (r' := u :: r) (r2 := r) (e := (0, 0)) (u := ()) (kw := k.kind) (by rw [hw.2, w1]) hw.1 (by have := hb'.1.1.1.2; omega) (by rw [hw.2]; exact w2) (by rw [hw.2]; exact w3)).2 (by omega)).2 k hq
    have h2 := this.2 (signQ_c hu)
    simpa [add] using h2
  | soft k =>
    obtain ⟨c1, c2, rfl, hc1, hc2⟩ := map_app_er h
    obtain ⟨t, c3, rfl, ht, hc3⟩ := map_cons_er hc1
    obtain ⟨u, c4, rfl, hu, hc4⟩ := map_cons_er hc2
    obtain rfl := map_nil_er hc4
    obtain ⟨hl, hb⟩ := hs
    have hw := er_word ht
    have hq := softQ_c (r := r) hd hb hu hc3
    have := ((stmtQ_soft (x := x) (t := t) (r := c3 ++ u :: r) (r' := u :: r) (r2 := r) (e := (0, 0)) (u := ()) hw.1 hw.2).2 (by omega)).2 k hq
    have h2 := this.2 (signQ_c hu)
    simpa [add] using h2
/-- A row of statements, each of which may stand behind those ahead. -/
def okAll : Ins → List St → Prop
  | _, [] => True
  | x, st :: r => okSt x st ∧ okAll (add x st) r
theorem stK_head (st : St) : ∃ s q, stK st = wT s :: q := by
  cases st with
  | dom d => exact ⟨_, _, rfl⟩
  | hard c => exact ⟨_, _, rfl⟩
  | soft s => exact ⟨_, _, rfl⟩
theorem stmtsQ_c : ∀ (sts : List St) (n : Nat) (x : Ins) (c : List Tok), DomsOk x.doms → okAll x sts → c.map er = sts.flatMap stK ++ [eT] → sts.length < n → stmtsQ n x c = .ok (sts.foldl add x)
  | sts, 0, x, c, _, _, _, hn => by omega
  | [], n + 1, x, c, _, _, h, _ => by
    obtain ⟨t, c', rfl, ht, _⟩ := map_cons_er h
    rw [stmtsQ_end (er_end ht)]; rfl
  | st :: sts, n + 1, x, c, hd, ho, h, hn => by
    rw [List.flatMap_cons, List.append_assoc] at h
    obtain ⟨c1, c2, rfl, hc1, hc2⟩ := map_app_er h
    have hq := stmtQ_c (r := c2) hd ho.1 hc1
    obtain ⟨s, q, hsq⟩ := stK_head st
    rw [hsq] at hc1
    obtain ⟨t, c3, rfl, ht, _⟩ := map_cons_er hc1
    rw [List.cons_append] at hq ⊢
    rw [stmtsQ_go (by rw [(er_word ht).1]; decide) hq]
    exact stmtsQ_c sts n _ c2 (domsOk_add hd ho.1) ho.2 hc2 (by simp at hn; omega)

/-! ### The statements of an instance -/
def stsOf (x : Ins) : List St := x.doms.map .dom ++ (x.hard.map .hard ++ x.soft.map .soft)
theorem okAll_append : ∀ (a b : List St) (x : Ins), okAll x (a ++ b) ↔ okAll x a ∧ okAll (a.foldl add x) b
  | [], b, x => by simp [okAll]
  | st :: a, b, x => by
    rw [List.cons_append, okAll, okAll, okAll_append a b (add x st), List.foldl_cons]
    exact ⟨fun h => ⟨⟨h.1, h.2.1⟩, h.2.2⟩, fun h => ⟨h.1.1, h.1.2, h.2⟩⟩
theorem add_doms : ∀ (l : List (List Int)) (x : Ins), (l.map St.dom).foldl add x = { x with doms := x.doms ++ l }
  | [], x => by simp
  | d :: l, x => by rw [List.map_cons, List.foldl_cons, add_doms l]; simp [add]
theorem add_hards : ∀ (l : List Con) (x : Ins), (l.map St.hard).foldl add x = { x with hard := x.hard ++ l }
  | [], x => by simp
  | d :: l, x => by rw [List.map_cons, List.foldl_cons, add_hards l]; simp [add]
theorem add_softs : ∀ (l : List Sft) (x : Ins), (l.map St.soft).foldl add x = { x with soft := x.soft ++ l }
  | [], x => by simp
  | d :: l, x => by rw [List.map_cons, List.foldl_cons, add_softs l]; simp [add]
theorem ok_doms : ∀ (l : List (List Int)) (x : Ins), x.doms.length + l.length ≤ 40 → (∀ d ∈ l, domainB d = true) → okAll x (l.map St.dom)
  | [], x, _, _ => trivial
  | d :: l, x, hl, h => by
    simp only [List.length_cons] at hl
    exact ⟨⟨by omega, h d (List.mem_cons_self ..)⟩, ok_doms l _ (by simp [add]; omega) (fun e he => h e (List.mem_cons_of_mem _ he))⟩
/-- What a constraint may be hangs on the domains alone. -/
theorem hardB_doms {x y : Ins} (h : x.doms = y.doms) (c : Con) : hardB x c = hardB y c := by simp [hardB, h]
theorem softB_doms {x y : Ins} (h : x.doms = y.doms) (s : Sft) : softB x s = softB y s := by simp [softB, h]
theorem ok_hards : ∀ (l : List Con) (x : Ins), x.hard.length + l.length ≤ 200 → (∀ c ∈ l, hardB x c = true) → okAll x (l.map St.hard)
  | [], x, _, _ => trivial
  | d :: l, x, hl, h => by
    simp only [List.length_cons] at hl
    refine ⟨⟨by omega, h d (List.mem_cons_self ..)⟩, ok_hards l _ (by simp [add]; omega) (fun e he => ?_)⟩
    rw [hardB_doms (x := add x (St.hard d)) (y := x) rfl]
    exact h e (List.mem_cons_of_mem _ he)
theorem ok_softs : ∀ (l : List Sft) (x : Ins), x.soft.length + l.length ≤ 200 → (∀ c ∈ l, softB x c = true) → okAll x (l.map St.soft)
  | [], x, _, _ => trivial
  | d :: l, x, hl, h => by
    simp only [List.length_cons] at hl
    refine ⟨⟨by omega, h d (List.mem_cons_self ..)⟩, ok_softs l _ (by simp [add]; omega) (fun e he => ?_)⟩
    rw [softB_doms (x := add x (St.soft d)) (y := x) rfl]
    exact h e (List.mem_cons_of_mem _ he)
theorem right_parts {x : Ins} (h : rightB x = true) : DomsOk x.doms ∧ x.hard.length ≤ 200 ∧ x.soft.length ≤ 200 ∧ (∀ c ∈ x.hard, hardB x c = true) ∧ (∀ s ∈ x.soft, softB x s = true) := by
  simp only [rightB, Bool.and_eq_true, decide_eq_true_eq, List.all_eq_true] at h
  exact ⟨⟨h.1.1.1.1.1, h.1.1.2⟩, h.1.1.1.1.2, h.1.1.1.2, h.1.2, h.2⟩
theorem ok_of {x : Ins} (h : rightB x = true) : okAll ⟨[], [], []⟩ (stsOf x) ∧ (stsOf x).foldl add ⟨[], [], []⟩ = x := by
  obtain ⟨hd, h1, h2, h3, h4⟩ := right_parts h
  unfold stsOf
  refine ⟨?_, ?_⟩
  · rw [okAll_append, okAll_append, add_doms, add_hards]
    refine ⟨ok_doms _ _ (by simpa using hd.1) hd.2, ok_hards _ _ (by simpa using h1) (fun c hc => ?_), ok_softs _ _ (by simpa using h2) (fun c hc => ?_)⟩
    · rw [hardB_doms (y := x) (by simp)]; exact h3 c hc
    · rw [softB_doms (y := x) (by simp)]; exact h4 c hc
  · rw [List.foldl_append, List.foldl_append, add_doms, add_hards, add_softs]
    simp

/-! ### Its text -/
/-- The numbers of a statement fit, and its word is there. -/
def fitSt : St → Prop
  | .dom d => Fits d
  | .hard c => 1 ≤ c.kind ∧ c.kind ≤ 6 ∧ Fits c.scope ∧ Fits c.args ∧ (∀ t ∈ c.rows, Fits t) ∧ (c.kind = 6 → c.args.length = c.scope.length + 2 ∧ 0 ≤ nth 0 c.args c.scope.length ∧ nth 0 c.args c.scope.length ≤ 2)
  | .soft s => Fits s.scope ∧ Fit s.dflt ∧ (∀ t ∈ s.rows, Fits t) ∧ Fits s.costs
theorem Scan.end_ {r : List UInt8} {us : List Tok} (h : Scan r us) : Scan (endT ++ r) (sT 59 :: us) ∧ Brk (endT ++ r) :=
  ⟨Scan.sign (c := 59) (by decide) (Scan.blank (c := 10) (by decide) h), Brk.cons (by decide)⟩
theorem words_letters (k : Int) (h1 : 1 ≤ k) (h6 : k ≤ 6) : nth [] wordsT k.toNat ≠ [] ∧ ∀ c ∈ nth [] wordsT k.toNat, isLetter c = true := by
  have : k = 1 ∨ k = 2 ∨ k = 3 ∨ k = 4 ∨ k = 5 ∨ k = 6 := by omega
  rcases this with rfl | rfl | rfl | rfl | rfl | rfl <;> exact ⟨by decide, by decide⟩
theorem hows_letters (k : Int) (h1 : 0 ≤ k) (h6 : k ≤ 2) : nth [] howsT k.toNat ≠ [] ∧ ∀ c ∈ nth [] howsT k.toNat, isLetter c = true := by
  have : k = 0 ∨ k = 1 ∨ k = 2 := by omega
  rcases this with rfl | rfl | rfl <;> exact ⟨by decide, by decide⟩
theorem Scan.one {n : Int} {r : List UInt8} {us : List Tok} (hn : Fit n) (hr : Brk r) (h : Scan r us) : Scan (numsP [n] ++ r) (nT n :: us) ∧ Brk (numsP [n] ++ r) :=
  Scan.nums (l := [n]) (fun k hk => by
    have : k = 0 := by simpa using hk
    subst this; exact hn) hr h
theorem Scan.st {st : St} {r : List UInt8} {us : List Tok} (hf : fitSt st) (h : Scan r us) : Scan (stP st ++ r) (stK st ++ us) := by
  have he := Scan.end_ h
  cases st with
  | dom d =>
    have h1 := Scan.nums (l := d) hf he.2 he.1
    have h2 := Scan.word (w := varT) (by decide) (by decide) h1.2 h1.1
    simpa [stP, stK, domK] using h2
  | hard c =>
    obtain ⟨k1, k6, fs, fa, fr, f6⟩ := hf
    obtain ⟨w1, w2⟩ := words_letters c.kind k1 k6
    by_cases hk : c.kind = 6
    · obtain ⟨g1, g2, g3⟩ := f6 hk
      obtain ⟨v1, v2⟩ := hows_letters _ g2 g3
      have h1 := Scan.one (n := nth 0 c.args (c.scope.length + 1)) (fa _ (by omega)) he.2 he.1
      have h2 := Scan.word v1 v2 h1.2 h1.1
      have h3 := Scan.sign (c := 58) (by decide) (Scan.blank (c := 32) (by decide) h2)
      have h4 := Scan.lin (i := 0) fa fs (Brk.cons (c := 58) (by decide)) h3
      have h5 := Scan.word w1 w2 h4.2 h4.1
      simp only [stP, stK, hardP, hardK, if_pos hk]
      simpa using h5
    · by_cases h2 : 2 < c.kind
      · have h1 := Scan.nums fs he.2 he.1
        have h5 := Scan.word w1 w2 h1.2 h1.1
        simp only [stP, stK, hardP, hardK, if_neg hk, if_pos h2]
        simpa using h5
      · have h1 := Scan.rows (i := 0) fr he.2 he.1
        have h3 := Scan.sign (c := 58) (by decide) h1.1
        have h4 := Scan.nums fs (Brk.cons (c := 58) (by decide)) h3
        have h5 := Scan.word w1 w2 h4.2 h4.1
        simp only [stP, stK, hardP, hardK, if_neg hk, if_neg h2]
        simpa using h5
  | soft s =>
    obtain ⟨fs, fd, fr, fc⟩ := hf
    have h1 := Scan.costs fr fc he.2 he.1
    have h2 := Scan.one fd h1.2 h1.1
    have h3 := Scan.sign (c := 58) (by decide) h2.1
    have h4 := Scan.nums fs (Brk.cons (c := 58) (by decide)) h3
    have h5 := Scan.word (w := softT) (by decide) (by decide) h4.2 h4.1
    simpa [stP, stK, softP, softK] using h5
theorem Scan.sts : ∀ {sts : List St}, (∀ st ∈ sts, fitSt st) → Scan (sts.flatMap stP) (sts.flatMap stK ++ [eT])
  | [], _ => Scan.nil
  | st :: sts, h => by
    rw [List.flatMap_cons, List.flatMap_cons, List.append_assoc]
    exact Scan.st (h st (List.mem_cons_self ..)) (Scan.sts (fun s hs => h s (List.mem_cons_of_mem _ hs)))
theorem fits_of_small {l : List Int} (h : Small6 l) : Fits l := fun k hk => by
  have := small_bounds (h _ (nth_mem 0 hk))
  exact ⟨by omega, by omega⟩
theorem fit_of_ok {x : Ins} {st : St} (hd : DomsOk x.doms) (h : okSt x st) : fitSt st := by
  cases st with
  | dom d => exact fits_of_small (domain_small h.2)
  | hard c =>
    obtain ⟨_, hb⟩ := h
    simp only [hardB, Bool.and_eq_true, decide_eq_true_eq, Bool.not_eq_true', Bool.and_eq_false_iff, decide_eq_false_iff_not] at hb
    obtain ⟨⟨⟨⟨hs, hk1⟩, hk6⟩, hrow⟩, hrest⟩ := hb
    by_cases h6 : c.kind = 6
    · rw [if_pos h6] at hrest
      simp only [linearB, Bool.and_eq_true, decide_eq_true_eq] at hrest
      have hr : c.rows = [] := by
        rcases hrow with h1 | h1
        · omega
        · exact List.eq_nil_of_length_eq_zero (by omega)
      refine ⟨hk1, hk6, scope_fits hd.1 hs, fun k hk => (argsB_fits _ _ _ hrest.2 k hk).fit, ?_, fun _ => ⟨hrest.1.1.1, hrest.1.1.2, hrest.1.2⟩⟩
      rw [hr]; intro t ht; simp at ht
    · rw [if_neg h6] at hrest
      simp only [Bool.and_eq_true, decide_eq_true_eq] at hrest
      refine ⟨hk1, hk6, scope_fits hd.1 hs, ?_, fun t ht => fits_of_small (rows_small hd hs hrest.2 t ht), fun h => absurd h h6⟩
      rw [List.eq_nil_of_length_eq_zero hrest.1]
      intro k hk; simp at hk
  | soft s =>
    obtain ⟨_, hb⟩ := h
    simp only [softB, Bool.and_eq_true, decide_eq_true_eq, Bool.not_eq_true'] at hb
    obtain ⟨⟨⟨⟨hs, hl⟩, hdf⟩, hw⟩, hrows⟩ := hb
    have := small_bounds hdf
    exact ⟨scope_fits hd.1 hs, ⟨by omega, by omega⟩, fun t ht => fits_of_small (rows_small hd hs hrows t ht), wideAny_fits hw⟩
theorem fit_all : ∀ (sts : List St) (x : Ins), DomsOk x.doms → okAll x sts → ∀ st ∈ sts, fitSt st
  | [], _, _, _, st, h => by simp at h
  | s :: sts, x, hd, ho, st, h => by
    rcases List.mem_cons.1 h with rfl | h
    · exact fit_of_ok hd ho.1
    · exact fit_all sts _ (domsOk_add hd ho.1) ho.2 st h
theorem print_sts {x : Ins} (h : rightB x = true) : printP x = (stsOf x).flatMap stP := by
  rw [printP, if_pos h]
  unfold stsOf
  rw [List.flatMap_append, List.flatMap_append, List.flatMap_map, List.flatMap_map, List.flatMap_map, List.append_assoc]
  rfl
theorem domsOk_nil : DomsOk [] := ⟨by simp, fun d h => by simp at h⟩
theorem stK_len (sts : List St) : sts.length ≤ (sts.flatMap stK).length := by
  induction sts with
  | nil => simp
  | cons st sts ih =>
    obtain ⟨s, q, hq⟩ := stK_head st
    rw [List.flatMap_cons, List.length_append, hq, List.length_cons, List.length_cons]
    omega
/-- Statements that may stand, printed, are read as what they tell. -/
theorem parse_sts {sts : List St} (h : okAll ⟨[], [], []⟩ sts) (hl : (sts.flatMap stP).length ≤ 100000) : parseP (sts.flatMap stP) = .ok (sts.foldl add ⟨[], [], []⟩) := by
  obtain ⟨ts, h1, h2⟩ := Scan.sts (fit_all sts _ domsOk_nil h) 0
  have ha : allP (sts.flatMap stP) = .ok ts := by
    rw [allP, if_neg (by omega)]
    exact h1
  simp only [parseP, ha]
  refine stmtsQ_c sts _ _ ts domsOk_nil h h2 ?_
  have hlen : (ts.map er).length = ts.length := by simp
  rw [h2, List.length_append, List.length_singleton] at hlen
  have := stK_len sts
  omega
theorem parse_print {x : Ins} (h : rightB x = true) (hl : (printP x).length ≤ 100000) : parseP (printP x) = .ok x := by
  obtain ⟨h1, h2⟩ := ok_of h
  rw [print_sts h] at hl ⊢
  rw [parse_sts h1 hl, h2]
end Go.Proofs.YtoahaigfjfeopaaGreatDoor

/- What the parser tells is right, and what it has read is just that: the tokens of it. -/
namespace Go.Proofs.YtoahaigfjfeopaaGreatDoor

def TokOk (t : Tok) : Prop := er t = nT t.n ∨ (er t = wT t.text ∧ t.text ≠ [] ∧ ∀ c ∈ t.text, isLetter c = true) ∨ (∃ c, er t = sT c ∧ (c = 58 ∨ c = 44 ∨ c = 59)) ∨ er t = eT
def AllOk (ts : List Tok) : Prop := ∀ t ∈ ts, TokOk t
theorem AllOk.tail {t : Tok} {r : List Tok} (h : AllOk (t :: r)) : AllOk r := fun u hu => h u (List.mem_cons_of_mem _ hu)
theorem AllOk.right {a b : List Tok} (h : AllOk (a ++ b)) : AllOk b := fun u hu => h u (List.mem_append_right _ hu)
theorem ok_num {t : Tok} (h : TokOk t) (hk : t.kind = 2) : er t = nT t.n := by
  rcases h with h | ⟨h, _⟩ | ⟨c, h, _⟩ | h
  · exact h
  · have := (er_word h).1; omega
  · have := (er_sign h).1; omega
  · have := er_end h; omega
theorem ok_word {t : Tok} (h : TokOk t) (hk : t.kind = 1) : er t = wT t.text := by
  rcases h with h | ⟨h, _⟩ | ⟨c, h, _⟩ | h
  · have := (er_num h).1; omega
  · exact h
  · have := (er_sign h).1; omega
  · have := er_end h; omega
theorem ok_sign {t : Tok} {c : UInt8} (h : TokOk t) (hc : isLetter c = false) (hp : isP t [c] = true) : er t = sT c := by
  simp only [isP, Bool.and_eq_true, Bool.or_eq_true, beq_iff_eq, decide_eq_true_eq] at hp
  obtain ⟨hk, ht⟩ := hp
  rcases h with h | ⟨h, _, hl⟩ | ⟨d, h, _⟩ | h
  · have := (er_num h).1; omega
  · rw [ht] at hl
    have := hl c (by simp)
    rw [hc] at this; cases this
  · have := (er_sign h).2
    rw [ht] at this
    injection this with this
    rw [this]; exact h
  · have := er_end h; omega
theorem numberQ_s {m : Int} {ts r : List Tok} {t : Tok} (h : numberQ m ts = .ok (t, r)) : ts = t :: r ∧ t.kind = 2 ∧ smallB t.n m = true := by
  cases ts with
  | nil => cases h
  | cons u q =>
    rw [numberQ] at h
    split at h
    · rename_i hk
      split at h
      · rename_i hs
        injection h with h
        injection h with h1 h2
        subst h1 h2
        exact ⟨rfl, by simpa using hk, hs⟩
      · cases h
    · cases h
theorem signQ_s {c : UInt8} {ts r : List Tok} {u : Unit} (hc : isLetter c = false) (ha : AllOk ts) (h : signQ [c] ts = .ok (u, r)) : ∃ t, ts = t :: r ∧ er t = sT c := by
  cases ts with
  | nil => cases h
  | cons t q =>
    rw [signQ] at h
    split at h
    · rename_i hp
      injection h with h
      injection h with _ h
      subst h
      exact ⟨t, rfl, ok_sign (ha t (List.mem_cons_self ..)) hc hp⟩
    · cases h
theorem valsQ_s (doms : List (List Int)) : ∀ (scope v : List Int) (ts r : List Tok), AllOk ts → valsQ doms scope ts = .ok (v, r) → ∃ c, ts = c ++ r ∧ c.map er = v.map nT ∧ v.length = scope.length ∧ inDoms doms scope v = true
  | [], v, ts, r, _, h => by
    injection h with h
    injection h with h1 h2
    subst h1 h2
    exact ⟨[], rfl, rfl, rfl, rfl⟩
  | s :: ss, v, ts, r, ha, h => by
    rw [valsQ] at h
    split at h
    · cases h
    · rename_i t q hn
      obtain ⟨rfl, hk, _⟩ := numberQ_s hn
      split at h
      · rename_i hin
        split at h
        · cases h
        · rename_i ns r' hv
          injection h with h
          injection h with h1 h2
          subst h1 h2
          obtain ⟨c, rfl, hc, hl, hi⟩ := valsQ_s doms ss ns q _ ha.tail hv
          refine ⟨t :: c, rfl, ?_, by simp [hl], ?_⟩
          · rw [List.map_cons, List.map_cons, hc, ok_num (ha t (List.mem_cons_self ..)) hk]
          · simp only [inDoms, Bool.and_eq_true, decide_eq_true_eq]
            exact ⟨hin, hi⟩
      · cases h
theorem rowQ_s {doms : List (List Int)} {scope : List Int} {ahead rows : List (List Int)} {ts r : List Tok} (ha : AllOk ts) (h : rowQ doms scope ahead ts = .ok (rows, r)) :
    ∃ v c, rows = ahead ++ [v] ∧ ts = c ++ r ∧ c.map er = v.map nT ∧ v.length = scope.length ∧ inDoms doms scope v = true ∧ (match lastO ahead with | none => true | some p => decide (cmpL p v < 0)) = true := by
  rw [rowQ] at h
  split at h
  · cases h
  · rename_i v q hv
    obtain ⟨c, rfl, hc, hl, hi⟩ := valsQ_s doms scope v ts q ha hv
    split at h
    · rename_i hlt
      injection h with h
      injection h with h1 h2
      subst h1 h2
      refine ⟨v, c, rfl, rfl, hc, hl, hi, ?_⟩
      unfold lastO
      by_cases hz : ahead.length = 0
      · rw [if_pos hz]
      · rw [if_neg hz]
        rcases hlt with hlt | hlt
        · exact absurd hlt hz
        · exact decide_eq_true hlt
    · cases h
theorem isQ_s {c : UInt8} {ts : List Tok} (hc : isLetter c = false) (ha : AllOk ts) : (isQ [c] ts).1 = true → ∃ t q, ts = t :: q ∧ er t = sT c ∧ (isQ [c] ts).2 = q := by
  intro h
  cases ts with
  | nil => simp [isQ] at h
  | cons t q =>
    simp only [isQ] at h ⊢
    rw [if_pos h]
    exact ⟨t, q, rfl, ok_sign (ha t (List.mem_cons_self ..)) hc h, rfl⟩
theorem isQ_not {s : List UInt8} {ts : List Tok} : ¬ (isQ s ts).1 = true → (isQ s ts).2 = ts := by
  intro h
  cases ts with
  | nil => rfl
  | cons t q =>
    simp only [isQ] at h ⊢
    rw [if_neg h]
theorem rowsQ_s (doms : List (List Int)) (scope : List Int) : ∀ (n : Nat) (ahead rows : List (List Int)) (ts r : List Tok), AllOk ts → rowsQ doms scope n ahead ts = .ok (rows, r) →
    ∃ v rest c, rows = ahead ++ v :: rest ∧ ts = c ++ r ∧ c.map er = v.map nT ++ rowsK 1 rest ∧ rowsB doms scope (lastO ahead) (v :: rest) = true
  | 0, _, _, _, _, _, h => by cases h
  | n + 1, ahead, rows, ts, r, ha, h => by
    rw [rowsQ] at h
    split at h
    · cases h
    · rename_i rows1 q hq
      obtain ⟨v, c, rfl, rfl, hc, hl, hi, hlt⟩ := rowQ_s ha hq
      split at h
      · rename_i hcm
        obtain ⟨t, q', rfl, ht, hq2⟩ := isQ_s (by decide) ha.right hcm
        rw [hq2] at h
        obtain ⟨w, rest, c2, h1, rfl, hc2, hb⟩ := rowsQ_s doms scope n _ _ q' r ha.right.tail h
        refine ⟨v, w :: rest, c ++ t :: c2, by rw [h1]; simp, by simp, ?_, ?_⟩
        · rw [List.map_append, List.map_cons, hc, ht, hc2, rowsK, if_pos (by omega), rowsK_pos rest (1 + 1) 1 (by omega) (by omega)]
          simp
        · rw [rowsB_cons]
          simp only [Bool.and_eq_true, decide_eq_true_eq]
          rw [lastO_snoc] at hb
          exact ⟨⟨⟨hl, hlt⟩, hi⟩, hb⟩
      · injection h with h
        injection h with h1 h2
        subst h1 h2
        refine ⟨v, [], c, rfl, rfl, by rw [hc]; simp [rowsK], ?_⟩
        rw [rowsB_cons]
        simp only [Bool.and_eq_true, decide_eq_true_eq]
        exact ⟨⟨⟨hl, hlt⟩, hi⟩, rfl⟩
theorem tableQ_s {doms : List (List Int)} {scope : List Int} {rows : List (List Int)} {ts r : List Tok} (ha : AllOk ts) (h : tableQ doms scope ts = .ok (rows, r)) :
    ∃ c, ts = c ++ r ∧ c.map er = sT 58 :: rowsK 0 rows ∧ rowsB doms scope none rows = true := by
  rw [tableQ] at h
  split at h
  · cases h
  · rename_i u q hs
    obtain ⟨t, rfl, ht⟩ := signQ_s (by decide) ha hs
    simp only at h
    split at h
    · injection h with h
      injection h with h1 h2
      subst h1 h2
      exact ⟨[t], rfl, by rw [List.map_singleton, ht]; rfl, rfl⟩
    · obtain ⟨v, rest, c, h1, rfl, hc, hb⟩ := rowsQ_s doms scope _ _ _ q r ha.tail h
      rw [List.nil_append] at h1
      subst h1
      refine ⟨t :: c, rfl, ?_, hb⟩
      rw [List.map_cons, ht, hc, rowsK, if_neg (by omega), List.nil_append]
theorem rising_snoc : ∀ (l : List Int) (n : Int), risingB l = true → (l.length = 0 ∨ lastI l < n) → risingB (l ++ [n]) = true
  | [], n, _, _ => rfl
  | [a], n, _, h => by
    rcases h with h | h
    · simp at h
    · have : lastI [a] = a := rfl
      rw [this] at h
      simp [risingB, h]
  | a :: b :: l, n, hr, h => by
    rw [risingB] at hr
    simp only [Bool.and_eq_true, decide_eq_true_eq] at hr
    have := rising_snoc (b :: l) n hr.2 (by
      rcases h with h | h
      · simp at h
      · exact .inr (by simpa [lastI, nth, List.getD_eq_getElem?_getD] using h))
    rw [List.cons_append, List.cons_append, risingB]
    simp only [Bool.and_eq_true, decide_eq_true_eq]
    exact ⟨hr.1, this⟩
theorem varQ_s {nd : Nat} {l l' : List Int} {ts r : List Tok} (ha : AllOk ts) (h : varQ nd l ts = .ok (l', r)) (hk : ScopeOk nd l) : ∃ t, ts = t :: r ∧ er t = nT t.n ∧ l' = l ++ [t.n] ∧ ScopeOk nd (l ++ [t.n]) := by
  cases ts with
  | nil => cases h
  | cons t q =>
    rw [varQ] at h
    split at h
    · cases h
    · rename_i hn
      obtain ⟨_, hk2, _⟩ := numberQ_s hn
      split at h
      · cases h
      · rename_i h6
        split at h
        · rename_i hc
          injection h with h
          injection h with h1 h2
          subst h1 h2
          refine ⟨t, rfl, ok_num (ha t (List.mem_cons_self ..)) (by injection (numberQ_s hn).1 with e; rw [e]; exact hk2), rfl, by simp; omega, rising_snoc l t.n hk.2.1 hc.2.2, fun v hv => ?_⟩
          rcases List.mem_append.1 hv with hv | hv
          · exact hk.2.2 v hv
          · rw [List.mem_singleton.1 hv]; exact ⟨hc.1, hc.2.1⟩
        · cases h
theorem scopeQ_s (nd : Nat) : ∀ (ts : List Tok) (acc l' : List Int) (r : List Tok), AllOk ts → ScopeOk nd acc → scopeQ nd ts acc = .ok (l', r) → ∃ l c, l' = acc ++ l ∧ ts = c ++ r ∧ c.map er = l.map nT ∧ ScopeOk nd (acc ++ l) ∧ acc ++ l ≠ []
  | [], acc, l', r, _, _, h => by cases h
  | t :: ts, acc, l', r, ha, hk, h => by
    rw [scopeQ] at h
    split at h
    · rename_i h0
      injection h with h
      injection h with h1 h2
      subst h1 h2
      exact ⟨[], [], by simp, rfl, rfl, by simpa using hk, by intro e; rw [List.append_nil] at e; rw [e] at h0; simp at h0⟩
    · split at h
      · cases h
      · rename_i l1 q hv
        obtain ⟨u, hu, he, rfl, hk'⟩ := varQ_s ha hv hk
        injection hu with hu1 hu2
        subst hu1
        obtain ⟨l, c, h1, rfl, hc, hk2, _⟩ := scopeQ_s nd ts _ l' r ha.tail hk' h
        refine ⟨t.n :: l, t :: c, by rw [h1]; simp, rfl, by rw [List.map_cons, List.map_cons, he, hc], by simpa using hk2, by simp⟩
theorem scope_of_ok {nd : Nat} {l : List Int} (h : ScopeOk nd l) (hn : l ≠ []) : scopeB nd l = true := by
  have hp := List.length_pos_iff.2 hn
  simp only [scopeB, Bool.and_eq_true, decide_eq_true_eq]
  exact ⟨⟨⟨⟨hp, h.1⟩, h.2.1⟩, (h.2.2 _ (nth_mem 0 hp)).1⟩, (h.2.2 _ (nth_mem 0 (show l.length - 1 < l.length by omega))).2⟩
theorem domQ_s : ∀ (ts : List Tok) (acc l' : List Int) (r : List Tok), AllOk ts → acc.length ≤ 16 → risingB acc = true → Small6 acc → domQ ts acc = .ok (l', r) → ∃ l c, l' = acc ++ l ∧ ts = c ++ r ∧ c.map er = l.map nT ∧ domainB (acc ++ l) = true
  | [], acc, l', r, _, _, _, _, h => by cases h
  | t :: ts, acc, l', r, ha, hl, hri, hs, h => by
    rw [domQ] at h
    split at h
    · rename_i h0
      injection h with h
      injection h with h1 h2
      subst h1 h2
      refine ⟨[], [], by simp, rfl, rfl, ?_⟩
      have hp : 0 < acc.length := by omega
      rw [List.append_nil]
      simp only [domainB, Bool.and_eq_true, decide_eq_true_eq]
      exact ⟨⟨⟨⟨hp, hl⟩, hri⟩, hs _ (nth_mem 0 hp)⟩, hs _ (nth_mem 0 (show acc.length - 1 < acc.length by omega))⟩
    · split at h
      · cases h
      · rename_i p hn
        obtain ⟨hn1, hk, hsm⟩ := numberQ_s (t := p.1) (r := p.2) hn
        injection hn1 with e1 e2
        rw [← e1] at hk hsm
        split at h
        · cases h
        · rename_i h16
          split at h
          · cases h
          · rename_i hlt
            obtain ⟨l, c, h1, rfl, hc, hb⟩ := domQ_s ts (acc ++ [t.n]) l' r ha.tail (by simp; omega) (rising_snoc acc t.n hri (by
              by_cases hz : acc.length = 0
              · exact .inl hz
              · exact .inr (by
                  have : ¬ t.n ≤ lastI acc := fun hx => hlt ⟨hz, hx⟩
                  omega))) (fun n hn => by
              rcases List.mem_append.1 hn with hn | hn
              · exact hs n hn
              · rw [List.mem_singleton.1 hn]; exact hsm) h
            exact ⟨t.n :: l, t :: c, by rw [h1]; simp, rfl, by rw [List.map_cons, List.map_cons, hc, ok_num (ha t (List.mem_cons_self ..)) hk], by simpa using hb⟩
end Go.Proofs.YtoahaigfjfeopaaGreatDoor

/- What the parser tells is right (statements, texts). -/
namespace Go.Proofs.YtoahaigfjfeopaaGreatDoor

theorem termsQ_s (nd : Nat) : ∀ (n : Nat) (args scope a' s' : List Int) (ts r : List Tok), AllOk ts → ScopeOk nd scope → termsQ nd n args scope ts = .ok ((a', s'), r) →
    ∃ a v aa vs c, a' = args ++ a :: aa ∧ s' = scope ++ v :: vs ∧ aa.length = vs.length ∧ ts = c ++ r ∧ c.map er = [nT a, nT v] ++ linK 1 aa vs ∧ (∀ b ∈ a :: aa, b ≠ 0 ∧ smallB b 1000000 = true) ∧ ScopeOk nd (scope ++ v :: vs)
  | 0, _, _, _, _, _, _, _, _, h => by cases h
  | n + 1, args, scope, a', s', ts, r, ha, hk, h => by
    rw [termsQ] at h
    split at h
    · cases h
    · rename_i t q hn
      obtain ⟨rfl, hk2, hsm⟩ := numberQ_s hn
      have ht := ok_num (ha t (List.mem_cons_self ..)) hk2
      split at h
      · cases h
      · rename_i h0
        split at h
        · cases h
        · rename_i sc q2 hv
          obtain ⟨u, rfl, hu, rfl, hk3⟩ := varQ_s ha.tail hv hk
          split at h
          · rename_i hcm
            obtain ⟨m, q3, rfl, hm, hq3⟩ := isQ_s (by decide) ha.tail.tail hcm
            rw [hq3] at h
            obtain ⟨b, w, aa, vs, c, h1, h2, hl, rfl, hc, hb, hk4⟩ := termsQ_s nd n _ _ a' s' q3 r ha.tail.tail.tail hk3 h
            refine ⟨t.n, u.n, b :: aa, w :: vs, t :: u :: m :: c, by rw [h1]; simp, by rw [h2]; simp, by simp [hl], rfl, ?_, ?_, by simpa using hk4⟩
            · simp only [List.map_cons]
              rw [ht, hu, hm, hc, linK, if_pos (by omega), linK_pos aa vs (1 + 1) 1 (by omega) (by omega)]
              simp
            · intro d hd
              rcases List.mem_cons.1 hd with rfl | hd
              · exact ⟨h0, hsm⟩
              · exact hb d hd
          · injection h with h
            injection h with h1 h2
            injection h1 with h1 h3
            subst h1 h2 h3
            refine ⟨t.n, u.n, [], [], [t, u], rfl, rfl, rfl, rfl, by simp [linK, ht, hu], ?_, hk3⟩
            intro d hd
            rw [List.mem_singleton.1 hd]
            exact ⟨h0, hsm⟩
theorem wordFrom_s (s : List UInt8) : ∀ (ws : List (List UInt8)) (i : Nat), 0 ≤ wordFrom s i ws → ∃ k : Nat, wordFrom s i ws = ((i + k : Nat) : Int) ∧ k < ws.length ∧ nth [] ws k = s
  | [], i, h => by simp [wordFrom] at h
  | a :: r, i, h => by
    rw [wordFrom] at h ⊢
    split at h
    · rename_i he
      rw [if_pos he]
      exact ⟨0, rfl, by simp, he⟩
    · rename_i he
      rw [if_neg he]
      obtain ⟨k, h1, h2, h3⟩ := wordFrom_s s r (i + 1) h
      exact ⟨k + 1, by rw [h1]; congr 1; omega, by simp; omega, h3⟩
theorem args_mk (n : Nat) : ∀ (l : List Int) (i : Nat), (∀ k, k < l.length → (i + k < n → nth 0 l k ≠ 0) ∧ smallB (nth 0 l k) 1000000 = true) → argsB n i l = true
  | [], i, _ => rfl
  | a :: l, i, h => by
    have h0 := h 0 (by simp)
    have ha : nth 0 (a :: l) 0 = a := rfl
    rw [ha] at h0
    simp only [argsB, Bool.and_eq_true, Bool.not_eq_true', Bool.and_eq_false_iff, decide_eq_false_iff_not]
    refine ⟨⟨?_, h0.2⟩, args_mk n l (i + 1) fun k hk => ?_⟩
    · by_cases hi : i < n
      · exact .inr (h0.1 hi)
      · exact .inl hi
    · have := h (k + 1) (by simp; omega)
      exact ⟨fun hi => this.1 (by omega), this.2⟩
theorem linearQ_s {nd : Nat} {ts r : List Tok} {args scope : List Int} (ha : AllOk ts) (h : linearQ nd ts = .ok ((args, scope), r)) :
    scopeB nd scope = true ∧ (∀ k rows, linearB ⟨k, scope, rows, args⟩ = true) ∧ ∃ c, ts = c ++ r ∧ c.map er = linK 0 args scope ++ [sT 58, wT (nth [] howsT (nth 0 args scope.length).toNat), nT (nth 0 args (scope.length + 1))] := by
  rw [linearQ] at h
  split at h
  · cases h
  · rename_i a0 s0 q hq
    obtain ⟨a, v, aa, vs, c, rfl, rfl, hl, rfl, hc, hb, hk⟩ := termsQ_s nd _ _ _ _ _ _ _ ha ⟨by simp, rfl, by simp⟩ hq
    simp only [List.nil_append] at h hk
    split at h
    · cases h
    · rename_i u q1 hs
      obtain ⟨t, rfl, ht⟩ := signQ_s (by decide) ha.right hs
      split at h
      · rename_i hh
        split at h
        · cases h
        · rename_i w q2 hn
          injection h with h
          injection h with h1 h2
          injection h1 with h1 h3
          subst h2 h3
          cases q1 with
          | nil => cases hn
          | cons hw q3 =>
            have hk4 : ¬ hw.kind = 4 := by have : hw.kind = 1 := hh.1; omega
            simp only [nextQ, if_neg hk4] at hh hn h1
            obtain ⟨rfl, hk2, hsm⟩ := numberQ_s hn
            obtain ⟨k, e1, e2, e3⟩ := wordFrom_s hw.text howsT 0 hh.2
            rw [e1, Nat.zero_add] at h1
            subst h1
            have hk3 : k < 3 := e2
            have hal : (a :: aa).length = (v :: vs).length := by simp [hl]
            have n0 : nth 0 (a :: aa ++ [(k : Int), w.n]) (v :: vs).length = k := by rw [← hal]; exact nth_len 0 (a :: aa) (k : Int) [w.n]
            have n1 : nth 0 (a :: aa ++ [(k : Int), w.n]) ((v :: vs).length + 1) = w.n := by
              rw [← hal]
              have := nth_len 0 (a :: aa ++ [(k : Int)]) w.n []
              simpa using this
            refine ⟨scope_of_ok hk (by simp), fun kk rows => ?_, c ++ t :: hw :: [w], by simp, ?_⟩
            · simp only [linearB, Bool.and_eq_true, decide_eq_true_eq]
              refine ⟨⟨⟨by simp [hl], by rw [n0]; omega⟩, by rw [n0]; omega⟩, args_mk _ _ 0 fun j hj => ?_⟩
              rcases Nat.lt_or_ge j (a :: aa).length with hj1 | hj1
              · rw [nth_left _ _ _ _ hj1]
                have := hb _ (nth_mem 0 hj1)
                exact ⟨fun _ => this.1, this.2⟩
              · refine ⟨fun hi => by omega, ?_⟩
                have : j = (a :: aa).length ∨ j = (a :: aa).length + 1 := by
                  rw [List.length_append] at hj
                  simp only [List.length_cons, List.length_nil] at hj hj1 ⊢
                  omega
                rcases this with rfl | rfl
                · rw [hal, n0]
                  have : k = 0 ∨ k = 1 ∨ k = 2 := by omega
                  rcases this with rfl | rfl | rfl <;> decide
                · rw [hal, n1]; exact hsm
            · rw [List.map_append, hc, n0, n1]
              simp only [List.map_cons, List.map_nil]
              have hwo := ok_word (ha.right.tail hw (List.mem_cons_self ..)) hh.1
              have hwn := ok_num (ha.right.tail.tail w (List.mem_cons_self ..)) hk2
              rw [ht, hwo, hwn, show ((k : Int)).toNat = k from rfl, e3]
              have hlk : linK 0 (a :: aa ++ [(k : Int), w.n]) (v :: vs) = [nT a, nT v] ++ linK 1 aa vs := by
                rw [← linK_take, List.take_append_of_le_length (by omega), List.take_of_length_le (by omega), linK, if_neg (by omega)]
                rfl
              rw [hlk]
      · cases h
theorem hardQ_s {x : Ins} {kind : Int} {ts r : List Tok} {c : Con} (hk1 : 1 ≤ kind) (hk6 : kind ≤ 6) (ha : AllOk ts) (h : hardQ x.doms kind ts = .ok (c, r)) :
    c.kind = kind ∧ hardB x c = true ∧ ∃ cs, ts = cs ++ r ∧ hardK c = wT (nth [] wordsT kind.toNat) :: cs.map er := by
  rw [hardQ] at h
  split at h
  · rename_i h6
    split at h
    · cases h
    · rename_i args scope q hq
      injection h with h
      injection h with h1 h2
      subst h1 h2
      obtain ⟨hs, hl, cs, rfl, hc⟩ := linearQ_s ha hq
      refine ⟨rfl, ?_, cs, rfl, ?_⟩
      · simp only [hardB, Bool.and_eq_true, decide_eq_true_eq, Bool.not_eq_true', Bool.and_eq_false_iff, decide_eq_false_iff_not]
        rw [if_pos h6]
        exact ⟨⟨⟨⟨hs, hk1⟩, hk6⟩, .inr (by simp)⟩, hl _ _⟩
      · simp only [hardK]
        rw [if_pos h6, hc]
  · rename_i h6
    split at h
    · cases h
    · rename_i scope q hs
      obtain ⟨l, c1, rfl, rfl, hc1, hok, hne⟩ := scopeQ_s _ ts [] scope q ha ⟨by simp, rfl, by simp⟩ hs
      simp only [List.nil_append] at hok hne h hs
      have hsb := scope_of_ok hok hne
      split at h
      · rename_i h2
        split at h
        · cases h
        · rename_i rows q2 ht
          injection h with h
          injection h with h1 h2
          subst h1 h2
          obtain ⟨c2, rfl, hc2, hb⟩ := tableQ_s ha.right ht
          refine ⟨rfl, ?_, c1 ++ c2, by simp, ?_⟩
          · simp only [hardB, Bool.and_eq_true, decide_eq_true_eq, Bool.not_eq_true', Bool.and_eq_false_iff, decide_eq_false_iff_not]
            rw [if_neg h6]
            simp only [Bool.and_eq_true, decide_eq_true_eq]
            exact ⟨⟨⟨⟨hsb, hk1⟩, hk6⟩, .inl (by omega)⟩, rfl, hb⟩
          · simp only [hardK]
            rw [if_neg h6, if_neg (by omega), List.map_append, hc1, hc2]
            rfl
      · rename_i h2
        injection h with h
        injection h with h1 h3
        subst h1 h3
        refine ⟨rfl, ?_, c1, rfl, ?_⟩
        · simp only [hardB, Bool.and_eq_true, decide_eq_true_eq, Bool.not_eq_true', Bool.and_eq_false_iff, decide_eq_false_iff_not]
          rw [if_neg h6]
          simp only [Bool.and_eq_true, decide_eq_true_eq]
          exact ⟨⟨⟨⟨hsb, hk1⟩, hk6⟩, .inr (by simp)⟩, rfl, rfl⟩
        · simp only [hardK]
          rw [if_neg h6, if_pos (by omega), hc1]
          simp
theorem costsQ_s {doms : List (List Int)} {scope : List Int} : ∀ (n : Nat) (rs : List (List Int)) (ks : List Int) (p : List (List Int) × List Int) (ts r : List Tok), AllOk ts → costsQ doms scope n rs ks ts = .ok (p, r) →
    ∃ rows costs c, p = (rs ++ rows, ks ++ costs) ∧ ts = c ++ r ∧ c.map er = costsK rows costs ∧ rows.length = costs.length ∧ rowsB doms scope (lastO rs) rows = true ∧ (∀ k ∈ costs, smallB k 1000000000000 = true)
  | 0, _, _, _, _, _, _, h => by cases h
  | n + 1, rs, ks, p, ts, r, ha, h => by
    rw [costsQ] at h
    split at h
    · rename_i hcm
      obtain ⟨t, q, rfl, ht, hq⟩ := isQ_s (by decide) ha hcm
      rw [hq] at h
      split at h
      · cases h
      · rename_i rows1 q1 hr
        obtain ⟨v, c, rfl, rfl, hc, hl, hi, hlt⟩ := rowQ_s ha.tail hr
        split at h
        · cases h
        · rename_i u q2 hn
          obtain ⟨rfl, hk2, hsm⟩ := numberQ_s hn
          obtain ⟨rows, costs, c2, rfl, rfl, hc2, hll, hb, hs⟩ := costsQ_s n _ _ p q2 r ha.tail.right.tail h
          refine ⟨v :: rows, u.n :: costs, t :: (c ++ u :: c2), by simp, by simp, ?_, by simp [hll], ?_, ?_⟩
          · rw [List.map_cons, List.map_append, List.map_cons, ht, hc, hc2, ok_num (ha.tail.right u (List.mem_cons_self ..)) hk2, costsK]
            simp
          · rw [rowsB_cons]
            simp only [Bool.and_eq_true, decide_eq_true_eq]
            rw [lastO_snoc] at hb
            exact ⟨⟨⟨hl, hlt⟩, hi⟩, hb⟩
          · intro k hk
            rcases List.mem_cons.1 hk with rfl | hk
            · exact hsm
            · exact hs k hk
    · injection h with h
      injection h with h1 h2
      subst h1 h2
      exact ⟨[], [], [], by simp, rfl, by simp [costsK], rfl, rfl, by simp⟩
theorem softQ_s {x : Ins} {ts r : List Tok} {s : Sft} (ha : AllOk ts) (h : softQ x.doms ts = .ok (s, r)) : softB x s = true ∧ ∃ cs, ts = cs ++ r ∧ softK s = wT softT :: cs.map er := by
  rw [softQ] at h
  split at h
  · cases h
  · rename_i scope q hs
    obtain ⟨l, c1, rfl, rfl, hc1, hok, hne⟩ := scopeQ_s _ ts [] scope q ha ⟨by simp, rfl, by simp⟩ hs
    simp only [List.nil_append] at hok hne h hs
    have hsb := scope_of_ok hok hne
    split at h
    · cases h
    · rename_i u q1 hg
      obtain ⟨t, rfl, ht⟩ := signQ_s (by decide) ha.right hg
      split at h
      · cases h
      · rename_i v q2 hn
        obtain ⟨rfl, hk2, hsm⟩ := numberQ_s hn
        split at h
        · cases h
        · rename_i rows costs q3 hc
          injection h with h
          injection h with h1 h2
          subst h1 h2
          obtain ⟨rows', costs', c2, e1, rfl, hc2, hll, hb, hcs⟩ := costsQ_s _ _ _ _ q2 q3 ha.right.tail.tail hc
          simp only [List.nil_append, Prod.mk.injEq] at e1
          obtain ⟨rfl, rfl⟩ := e1
          refine ⟨?_, c1 ++ t :: v :: c2, by simp, ?_⟩
          · simp only [softB, Bool.and_eq_true, decide_eq_true_eq, Bool.not_eq_true']
            refine ⟨⟨⟨⟨hsb, hll.symm⟩, hsm⟩, ?_⟩, hb⟩
            simp only [wideAny, List.any_eq_false]
            intro k hk
            simp [hcs k hk]
          · simp only [softK]
            rw [List.map_append, List.map_cons, List.map_cons, hc1, ht, hc2, ok_num (ha.right.tail v (List.mem_cons_self ..)) hk2]
            simp
theorem stmtQ_s {x y : Ins} {ts r : List Tok} (ha : AllOk ts) (h : stmtQ x ts = .ok (y, r)) : ∃ st c, y = add x st ∧ okSt x st ∧ ts = c ++ r ∧ c.map er = stK st := by
  cases ts with
  | nil => cases h
  | cons t q =>
    by_cases hg : t.kind = 1 ∧ (0 < wordFrom t.text 0 wordsT ∨ t.text = varT ∨ t.text = softT)
    · obtain ⟨hk, hw⟩ := hg
      have ht := ok_word (ha t (List.mem_cons_self ..)) hk
      have h4 : ¬ t.kind = 4 := by omega
      by_cases hv : t.text = varT
      · simp only [stmtQ, nextQ, if_neg h4, if_pos hv] at h
        rw [if_neg (fun hx => hx ⟨hk, hw⟩)] at h
        split at h
        · cases h
        · rename_i y' r' hy
          split at h
          · cases h
          · rename_i u r2 hs
            injection h with h
            injection h with h1 h2
            subst h1 h2
            split at hy
            · cases hy
            · rename_i h40
              split at hy
              · cases hy
              · rename_i d r3 hd
                injection hy with hy
                injection hy with h1 h2
                subst h1 h2
                obtain ⟨l, c, rfl, rfl, hc, hb⟩ := domQ_s q [] d r3 ha.tail (by simp) rfl (by intro n hn; simp at hn) hd
                obtain ⟨s, rfl, hs'⟩ := signQ_s (by decide) ha.tail.right hs
                refine ⟨.dom d, t :: c ++ [s], by simp [add], ⟨by omega, by simpa using hb⟩, by simp, ?_⟩
                simp only [List.map_append, List.map_cons, List.map_nil, stK, domK]
                rw [ht, hv, hc, hs']
      · by_cases hsf : t.text = softT
        · simp only [stmtQ, nextQ, if_neg h4, if_neg hv, if_pos hsf] at h
          rw [if_neg (fun hx => hx ⟨hk, hw⟩)] at h
          split at h
          · cases h
          · rename_i y' r' hy
            split at h
            · cases h
            · rename_i u r2 hs
              injection h with h
              injection h with h1 h2
              subst h1 h2
              split at hy
              · cases hy
              · rename_i h40
                split at hy
                · cases hy
                · rename_i d r3 hd
                  injection hy with hy
                  injection hy with h1 h2
                  subst h1 h2
                  obtain ⟨hb, c, rfl, hc⟩ := softQ_s ha.tail hd
                  obtain ⟨s, rfl, hs'⟩ := signQ_s (by decide) ha.tail.right hs
                  refine ⟨.soft d, t :: c ++ [s], rfl, ⟨by omega, hb⟩, by simp, ?_⟩
                  simp only [List.map_append, List.map_cons, List.map_nil, stK]
                  rw [hc, ht, hsf, hs']
        · have hw0 : 0 < wordFrom t.text 0 wordsT := by
            rcases hw with hw | hw | hw
            · exact hw
            · exact absurd hw hv
            · exact absurd hw hsf
          obtain ⟨k, e1, e2, e3⟩ := wordFrom_s t.text wordsT 0 (by omega)
          rw [Nat.zero_add] at e1
          have e2' : k < 7 := e2
          simp only [stmtQ, nextQ, if_neg h4, if_neg hv, if_neg hsf] at h
          rw [if_neg (fun hx => hx ⟨hk, hw⟩)] at h
          split at h
          · cases h
          · rename_i y' r' hy
            split at h
            · cases h
            · rename_i u r2 hs
              injection h with h
              injection h with h1 h2
              subst h1 h2
              split at hy
              · cases hy
              · rename_i h40
                split at hy
                · cases hy
                · rename_i d r3 hd
                  injection hy with hy
                  injection hy with h1 h2
                  subst h1 h2
                  obtain ⟨hkd, hb, c, rfl, hc⟩ := hardQ_s (x := x) (by omega) (by omega) ha.tail hd
                  obtain ⟨s, rfl, hs'⟩ := signQ_s (by decide) ha.tail.right hs
                  refine ⟨.hard d, t :: c ++ [s], rfl, ⟨by omega, hb⟩, by simp, ?_⟩
                  simp only [List.map_append, List.map_cons, List.map_nil, stK]
                  rw [hc, ht, hs', e1, show ((k : Int)).toNat = k from rfl, e3]
    · rw [stmtQ_bad hg] at h; cases h
theorem stmtsQ_s : ∀ (n : Nat) (x y : Ins) (ts : List Tok), AllOk ts → ts ≠ [] → stmtsQ n x ts = .ok y → ∃ sts c e r, y = sts.foldl add x ∧ okAll x sts ∧ ts = c ++ e :: r ∧ e.kind = 4 ∧ c.map er = sts.flatMap stK
  | 0, _, _, _, _, _, h => by cases h
  | n + 1, x, y, [], _, hne, _ => absurd rfl hne
  | n + 1, x, y, t :: q, ha, _, h => by
    by_cases h4 : t.kind = 4
    · rw [stmtsQ_end h4] at h
      injection h with h
      subst h
      exact ⟨[], [], t, q, rfl, trivial, rfl, h4, rfl⟩
    · cases hs : stmtQ x (t :: q) with
      | error e => rw [stmtsQ_err h4 hs] at h; cases h
      | ok p =>
        obtain ⟨x2, r⟩ := p
        rw [stmtsQ_go h4 hs] at h
        obtain ⟨st, c, rfl, ho, hq, hc⟩ := stmtQ_s ha hs
        by_cases hr : r = []
        · subst hr
          exfalso
          cases n with
          | zero => cases h
          | succ n =>
            have he : stmtsQ (n + 1) (add x st) [] = .error (0, 3) := rfl
            rw [he] at h; cases h
        · obtain ⟨sts, c2, e, r2, rfl, ho2, rfl, he, hc2⟩ := stmtsQ_s n _ y r (by rw [hq] at ha; exact ha.right) hr h
          exact ⟨st :: sts, c ++ c2, e, r2, rfl, ⟨ho, ho2⟩, by rw [hq]; simp, he, by rw [List.map_append, hc, hc2, List.flatMap_cons]⟩
end Go.Proofs.YtoahaigfjfeopaaGreatDoor

/- The parser looks no further than where it tells that something is wrong. -/
namespace Go.Proofs.YtoahaigfjfeopaaGreatDoor

/-- What is told of tokens c with the end E behind them is told with anything behind them, but where the end itself is wrong; what is left (c2) is a part of c. -/
def LocR {α : Type} (c : List Tok) (E : Tok) (res : PR α) (run : List Tok → PR α) : Prop :=
  match res with
  | .error (p, x) => x ≠ 0 ∧ (p = E.at_ ∨ (∃ t ∈ c, p = t.at_) ∧ ∀ u, u ≠ [] → run u = .error (p, x))
  | .ok (v, r) => ∃ c1 c2, c = c1 ++ c2 ∧ r = c2 ++ [E] ∧ (c2 ≠ [] → ∀ u, u ≠ [] → run u = .ok (v, c2 ++ u))
/-- .. and what is left goes on with whatever comes. -/
def LocS {α : Type} (c : List Tok) (E : Tok) (res : PR α) (run : List Tok → PR α) : Prop :=
  match res with
  | .error (p, x) => x ≠ 0 ∧ (p = E.at_ ∨ (∃ t ∈ c, p = t.at_) ∧ ∀ u, u ≠ [] → run u = .error (p, x))
  | .ok (v, r) => ∃ c1 c2, c = c1 ++ c2 ∧ c1 ≠ [] ∧ r = c2 ++ [E] ∧ ∀ u, run u = .ok (v, c2 ++ u)
theorem LocR.err {α : Type} {c : List Tok} {E : Tok} {run : List Tok → PR α} {p x : Int} (hx : x ≠ 0) (h : p = E.at_ ∨ (∃ t ∈ c, p = t.at_) ∧ ∀ u, u ≠ [] → run u = .error (p, x)) : LocR c E (.error (p, x)) run := ⟨hx, h⟩
theorem loc_num (m : Int) (c : List Tok) (E : Tok) (hE : E.kind = 4) : LocS c E (numberQ m (c ++ [E])) (fun u => numberQ m (c ++ u)) := by
  cases c with
  | nil =>
    have : numberQ m ([] ++ [E]) = .error (E.at_, 3) := by simp [numberQ, hE]
    rw [this]; exact ⟨by decide, .inl rfl⟩
  | cons t q =>
    rw [List.cons_append]
    rcases numberQ_cases m t (q ++ [E]) with ⟨h, hk⟩ | ⟨h, hk, hs⟩ | ⟨h, hk, hs⟩
    · rw [h]
      refine ⟨by decide, .inr ⟨⟨t, List.mem_cons_self .., rfl⟩, fun u _ => ?_⟩⟩
      simp [numberQ, hk]
    · rw [h]
      refine ⟨by decide, .inr ⟨⟨t, List.mem_cons_self .., rfl⟩, fun u _ => ?_⟩⟩
      simp [numberQ, hk, hs]
    · rw [h]
      refine ⟨[t], q, rfl, by simp, rfl, fun u => ?_⟩
      simp [numberQ, hk, hs]
theorem loc_sign (s : List UInt8) (c : List Tok) (E : Tok) (hE : E.kind = 4) : LocS c E (signQ s (c ++ [E])) (fun u => signQ s (c ++ u)) := by
  cases c with
  | nil =>
    have : signQ s ([] ++ [E]) = .error (E.at_, 3) := by simp [signQ, isP, hE]
    rw [this]; exact ⟨by decide, .inl rfl⟩
  | cons t q =>
    rw [List.cons_append, signQ]
    split
    · rename_i hp
      exact ⟨[t], q, rfl, by simp, rfl, fun u => by simp [signQ, hp]⟩
    · rename_i hp
      exact ⟨by decide, .inr ⟨⟨t, List.mem_cons_self .., rfl⟩, fun u _ => by simp [signQ, hp]⟩⟩
theorem loc_var (nd : Nat) (l : List Int) (c : List Tok) (E : Tok) (hE : E.kind = 4) : LocS c E (varQ nd l (c ++ [E])) (fun u => varQ nd l (c ++ u)) := by
  cases c with
  | nil =>
    have : varQ nd l ([] ++ [E]) = .error (E.at_, 3) := by simp [varQ, numberQ, hE]
    rw [this]; exact ⟨by decide, .inl rfl⟩
  | cons t q =>
    have hl := loc_num 1000000000000 (t :: q) E hE
    have e : ∀ u, varQ nd l (t :: q ++ u) = match numberQ 1000000000000 (t :: q ++ u) with
      | .error e => .error e
      | .ok _ => if 6 ≤ l.length then .error (t.at_, 7) else if 0 ≤ t.n ∧ t.n < nd ∧ (l.length = 0 ∨ lastI l < t.n) then .ok (l ++ [t.n], q ++ u) else .error (t.at_, 5) := fun u => by rw [List.cons_append, varQ]; rfl
    rw [e]
    cases hn : numberQ 1000000000000 (t :: q ++ [E]) with
    | error p =>
      obtain ⟨p, x⟩ := p
      rw [hn] at hl
      exact ⟨hl.1, hl.2.imp_right fun h => ⟨h.1, fun u hu => by simp only [e, h.2 u hu]⟩⟩
    | ok r =>
      obtain ⟨v, r⟩ := r
      rw [hn] at hl
      obtain ⟨c1, c2, hc, _, _, hu⟩ := hl
      simp only
      split
      · rename_i h6
        exact ⟨by decide, .inr ⟨⟨t, List.mem_cons_self .., rfl⟩, fun u _ => by simp only [e, hu u]; rw [if_pos h6]⟩⟩
      · rename_i h6
        split
        · rename_i hc3
          exact ⟨[t], q, rfl, by simp, rfl, fun u => by simp only [e, hu u]; rw [if_neg h6, if_pos hc3]⟩
        · rename_i hc3
          exact ⟨by decide, .inr ⟨⟨t, List.mem_cons_self .., rfl⟩, fun u _ => by simp only [e, hu u]; rw [if_neg h6, if_neg hc3]⟩⟩
/-- .. whatever is left, nothing too; nothing need have been read. -/
def LocV {α : Type} (c : List Tok) (E : Tok) (res : PR α) (run : List Tok → PR α) : Prop :=
  match res with
  | .error (p, x) => x ≠ 0 ∧ (p = E.at_ ∨ (∃ t ∈ c, p = t.at_) ∧ ∀ u, u ≠ [] → run u = .error (p, x))
  | .ok (v, r) => ∃ c1 c2, c = c1 ++ c2 ∧ r = c2 ++ [E] ∧ ∀ u, run u = .ok (v, c2 ++ u)
theorem loc_vals (doms : List (List Int)) : ∀ (scope : List Int) (c : List Tok) (E : Tok), E.kind = 4 → LocV c E (valsQ doms scope (c ++ [E])) (fun u => valsQ doms scope (c ++ u))
  | [], c, E, _ => ⟨[], c, rfl, rfl, fun u => rfl⟩
  | s :: ss, c, E, hE => by
    have hl := loc_num 1000000 c E hE
    cases hn : numberQ 1000000 (c ++ [E]) with
    | error p =>
      obtain ⟨p, x⟩ := p
      rw [hn] at hl
      rw [valsQ, hn]
      exact ⟨hl.1, hl.2.imp_right fun h => ⟨h.1, fun u hu => by simp only [valsQ, h.2 u hu]⟩⟩
    | ok r =>
      obtain ⟨v, r⟩ := r
      rw [hn] at hl
      obtain ⟨c1, c2, rfl, hne, rfl, hu⟩ := hl
      have hv := (numberQ_s hn).1
      have hmem : v ∈ c1 ++ c2 := by
        cases c1 with
        | nil => exact absurd rfl hne
        | cons t q => rw [List.cons_append, List.cons_append] at hv; injection hv with hv _; rw [hv]; exact List.mem_cons_self ..
      rw [valsQ, hn]
      simp only
      split
      · rename_i hin
        have ih := loc_vals doms ss c2 E hE
        cases hq : valsQ doms ss (c2 ++ [E]) with
        | error p =>
          obtain ⟨p, x⟩ := p
          rw [hq] at ih
          exact ⟨ih.1, ih.2.imp_right fun h => ⟨by obtain ⟨t, ht, e⟩ := h.1; exact ⟨t, List.mem_append_right _ ht, e⟩, fun u hu2 => by
            have h3 : valsQ doms ss (c2 ++ u) = _ := h.2 u hu2
            simp only [valsQ, hu u]; rw [if_pos hin, h3]⟩⟩
        | ok r =>
          obtain ⟨ns, r⟩ := r
          rw [hq] at ih
          obtain ⟨d1, d2, rfl, rfl, hd⟩ := ih
          exact ⟨c1 ++ d1, d2, by simp, rfl, fun u => by
            have h3 : valsQ doms ss (d1 ++ d2 ++ u) = _ := hd u
            simp only [valsQ, hu u]; rw [if_pos hin, h3]⟩
      · rename_i hin
        exact ⟨by decide, .inr ⟨⟨v, hmem, rfl⟩, fun u _ => by simp only [valsQ, hu u]; rw [if_neg hin]⟩⟩
theorem loc_row (doms : List (List Int)) (scope : List Int) (ahead : List (List Int)) (c : List Tok) (E : Tok) (hE : E.kind = 4) : LocV c E (rowQ doms scope ahead (c ++ [E])) (fun u => rowQ doms scope ahead (c ++ u)) := by
  have hl := loc_vals doms scope c E hE
  cases hn : valsQ doms scope (c ++ [E]) with
  | error p =>
    obtain ⟨p, x⟩ := p
    rw [hn] at hl
    rw [rowQ, hn]
    exact ⟨hl.1, hl.2.imp_right fun h => ⟨h.1, fun u hu => by simp only [rowQ, h.2 u hu]⟩⟩
  | ok r =>
    obtain ⟨v, r⟩ := r
    rw [hn] at hl
    obtain ⟨c1, c2, hcc, rfl, hu⟩ := hl
    rw [rowQ, hn]
    simp only
    split
    · rename_i hc
      exact ⟨c1, c2, hcc, rfl, fun u => by simp only [rowQ, hu u]; rw [if_pos hc]⟩
    · rename_i hc
      cases c with
      | nil => exact ⟨by decide, .inl rfl⟩
      | cons t q =>
        exact ⟨by decide, .inr ⟨⟨t, List.mem_cons_self .., rfl⟩, fun u hu2 => by
          simp only [rowQ, hu u]
          rw [if_neg hc]; rfl⟩⟩
theorem isP_end {E : Tok} (hE : E.kind = 4) (s : List UInt8) : isP E s = false := by simp [isP, hE]
theorem loc_rows (doms : List (List Int)) (scope : List Int) : ∀ (n : Nat) (ahead : List (List Int)) (c : List Tok) (E : Tok), E.kind = 4 → c.length < n → ∀ n', n ≤ n' → LocR c E (rowsQ doms scope n ahead (c ++ [E])) (fun u => rowsQ doms scope n' ahead (c ++ u))
  | 0, ahead, c, E, _, hn, _, _ => by omega
  | n + 1, ahead, c, E, hE, hlen, 0, hn' => by omega
  | n + 1, ahead, c, E, hE, hlen, n' + 1, hn' => by
    have hl := loc_row doms scope ahead c E hE
    cases hn : rowQ doms scope ahead (c ++ [E]) with
    | error p =>
      obtain ⟨p, x⟩ := p
      rw [hn] at hl
      rw [rowsQ, hn]
      exact ⟨hl.1, hl.2.imp_right fun h => ⟨h.1, fun u hu => by simp only [rowsQ, h.2 u hu]⟩⟩
    | ok r =>
      obtain ⟨rows, r⟩ := r
      rw [hn] at hl
      obtain ⟨c1, c2, rfl, rfl, hu⟩ := hl
      rw [rowsQ, hn]
      simp only
      cases c2 with
      | nil =>
        rw [if_neg (by simp [isQ, isP_end hE])]
        exact ⟨c1, [], rfl, rfl, fun h => absurd rfl h⟩
      | cons t q =>
        by_cases hp : isP t [44] = true
        · rw [if_pos (by simp [isQ, hp]), show (isQ [44] (t :: q ++ [E])).2 = q ++ [E] by simp [isQ, hp]]
          have ih := loc_rows doms scope n rows q E hE (by simp at hlen; omega) n' (by omega)
          have hrun : ∀ u, rowsQ doms scope (n' + 1) ahead (c1 ++ t :: q ++ u) = rowsQ doms scope n' rows (q ++ u) := fun u => by
            have h3 : rowQ doms scope ahead (c1 ++ t :: q ++ u) = _ := hu u
            rw [rowsQ, h3]; simp only [List.cons_append]; rw [if_pos (by simp [isQ, hp]), show (isQ [44] (t :: (q ++ u))).2 = q ++ u by simp [isQ, hp]]
          cases hq : rowsQ doms scope n rows (q ++ [E]) with
          | error p =>
            obtain ⟨p, x⟩ := p
            rw [hq] at ih
            exact ⟨ih.1, ih.2.imp_right fun h => ⟨by obtain ⟨t', ht, e⟩ := h.1; exact ⟨t', List.mem_append_right _ (List.mem_cons_of_mem _ ht), e⟩, fun u hu2 => (hrun u).trans (h.2 u hu2)⟩⟩
          | ok r =>
            obtain ⟨ns, r⟩ := r
            rw [hq] at ih
            obtain ⟨d1, d2, rfl, rfl, hd⟩ := ih
            exact ⟨c1 ++ t :: d1, d2, by simp, rfl, fun h u hu2 => (hrun u).trans (hd h u hu2)⟩
        · rw [if_neg (by simp [isQ, hp])]
          refine ⟨c1, t :: q, rfl, rfl, fun _ u _ => ?_⟩
          have h3 : rowQ doms scope ahead (c1 ++ t :: q ++ u) = _ := hu u
          simp only [rowsQ, h3]
          rw [if_neg (by simp [isQ, hp])]
theorem loc_table (doms : List (List Int)) (scope : List Int) (c : List Tok) (E : Tok) (hE : E.kind = 4) : LocR c E (tableQ doms scope (c ++ [E])) (fun u => tableQ doms scope (c ++ u)) := by
  have hl := loc_sign [58] c E hE
  cases hn : signQ [58] (c ++ [E]) with
  | error p =>
    obtain ⟨p, x⟩ := p
    rw [hn] at hl
    rw [tableQ, hn]
    exact ⟨hl.1, hl.2.imp_right fun h => ⟨h.1, fun u hu => by simp only [tableQ, h.2 u hu]⟩⟩
  | ok r =>
    obtain ⟨v, r⟩ := r
    rw [hn] at hl
    obtain ⟨c1, c2, rfl, hne, rfl, hu⟩ := hl
    rw [tableQ, hn]
    simp only
    by_cases hh : c2 ≠ [] ∧ (nth default (c2 ++ [E]) 0).kind = 3 ∧ (nth default (c2 ++ [E]) 0).text = [59]
    · rw [if_pos hh.2]
      refine ⟨c1, c2, rfl, rfl, fun _ u _ => ?_⟩
      simp only [tableQ, hu u]
      rw [if_pos]
      cases c2 with
      | nil => exact absurd rfl hh.1
      | cons t q => exact hh.2
    · have hng : ¬ ((nth default (c2 ++ [E]) 0).kind = 3 ∧ (nth default (c2 ++ [E]) 0).text = [59]) := by
        intro hx
        apply hh
        refine ⟨?_, hx⟩
        intro e
        subst e
        have : E.kind = 3 := hx.1
        omega
      rw [if_neg hng]
      cases c2 with
      | nil =>
        have ih := loc_rows doms scope (([] ++ [E]).length + 1) [] [] E hE (by simp) _ (Nat.le_refl _)
        cases hq : rowsQ doms scope (([] ++ [E]).length + 1) [] ([] ++ [E]) with
        | error p =>
          obtain ⟨p, x⟩ := p
          rw [hq] at ih
          refine ⟨ih.1, .inl ?_⟩
          rcases ih.2 with h | h
          · exact h
          · obtain ⟨t, ht, _⟩ := h.1; simp at ht
        | ok r =>
          obtain ⟨ns, r⟩ := r
          rw [hq] at ih
          obtain ⟨d1, d2, hd0, rfl, hd⟩ := ih
          have : d2 = [] := by
            have := congrArg List.length hd0
            simp at this
            exact List.eq_nil_of_length_eq_zero (by omega)
          subst this
          exact ⟨c1, [], by simp, rfl, fun h => absurd rfl h⟩
      | cons t q =>
        have ih := fun n' h => loc_rows doms scope ((t :: q ++ [E]).length + 1) [] (t :: q) E hE (by simp) n' h
        have hrun : ∀ u, tableQ doms scope (c1 ++ t :: q ++ u) = rowsQ doms scope ((t :: q ++ u).length + 1) [] (t :: q ++ u) := fun u => by
          have h3 : signQ [58] (c1 ++ t :: q ++ u) = _ := hu u
          rw [tableQ, h3]
          simp only
          rw [if_neg]
          exact hng
        cases hq : rowsQ doms scope ((t :: q ++ [E]).length + 1) [] (t :: q ++ [E]) with
        | error p =>
          obtain ⟨p, x⟩ := p
          rw [hq] at ih
          refine ⟨(ih _ (Nat.le_refl _)).1, ?_⟩
          rcases (ih _ (Nat.le_refl _)).2 with h | h
          · exact .inl h
          · by_cases hpe : p = E.at_
            · exact .inl hpe
            · refine .inr ⟨by obtain ⟨t', ht, e⟩ := h.1; exact ⟨t', List.mem_append_right _ ht, e⟩, fun u hu2 => ?_⟩
              have hlen : (t :: q ++ [E]).length + 1 ≤ (t :: q ++ u).length + 1 := by
                have := List.length_pos_iff.2 hu2
                simp; omega
              rcases (ih _ hlen).2 with h4 | h4
              · exact absurd h4 hpe
              · exact (hrun u).trans (h4.2 u hu2)
        | ok r =>
          obtain ⟨ns, r⟩ := r
          rw [hq] at ih
          obtain ⟨d1, d2, hd0, hr, _⟩ := ih _ (Nat.le_refl _)
          refine ⟨c1 ++ d1, d2, by rw [hd0]; simp, hr, fun h u hu2 => ?_⟩
          have hlen : (t :: q ++ [E]).length + 1 ≤ (t :: q ++ u).length + 1 := by
            have := List.length_pos_iff.2 hu2
            simp; omega
          obtain ⟨e1, e2, he0, hr2, he⟩ := ih _ hlen
          have : e2 = d2 := by
            rw [hr] at hr2
            exact (List.append_inj_left' hr2 rfl).symm
          subst this
          exact (hrun u).trans (he h u hu2)
theorem loc_scope (nd : Nat) : ∀ (c : List Tok) (acc : List Int) (E : Tok), E.kind = 4 → LocR c E (scopeQ nd (c ++ [E]) acc) (fun u => scopeQ nd (c ++ u) acc)
  | [], acc, E, hE => by
    rw [List.nil_append, scopeQ]
    split
    · exact ⟨[], [], rfl, rfl, fun h => absurd rfl h⟩
    · have : varQ nd acc [E] = .error (E.at_, 3) := by simp [varQ, numberQ, hE]
      rw [this]
      exact ⟨by decide, .inl rfl⟩
  | t :: q, acc, E, hE => by
    have hl := loc_var nd acc (t :: q) E hE
    rw [List.cons_append, scopeQ]
    split
    · rename_i h0
      exact ⟨[], t :: q, rfl, rfl, fun _ u _ => by simp only [List.cons_append, scopeQ]; rw [if_pos h0]⟩
    · rename_i h0
      rw [← List.cons_append]
      cases hn : varQ nd acc (t :: q ++ [E]) with
      | error p =>
        obtain ⟨p, x⟩ := p
        rw [hn] at hl
        exact ⟨hl.1, hl.2.imp_right fun h => ⟨h.1, fun u hu => by
          have h3 : varQ nd acc (t :: q ++ u) = _ := h.2 u hu
          simp only [List.cons_append, scopeQ] at h3 ⊢
          rw [if_neg h0, h3]⟩⟩
      | ok r =>
        obtain ⟨l1, r⟩ := r
        rw [hn] at hl
        obtain ⟨c1, c2, hc, _, _, hu⟩ := hl
        have ih := loc_scope nd q l1 E hE
        have hrun : ∀ u, scopeQ nd (t :: q ++ u) acc = scopeQ nd (q ++ u) l1 := fun u => by
          have h3 : varQ nd acc (t :: q ++ u) = _ := hu u
          simp only [List.cons_append, scopeQ] at h3 ⊢
          rw [if_neg h0, h3]
        simp only
        cases hq : scopeQ nd (q ++ [E]) l1 with
        | error p =>
          obtain ⟨p, x⟩ := p
          rw [hq] at ih
          exact ⟨ih.1, ih.2.imp_right fun h => ⟨by obtain ⟨t', ht, e⟩ := h.1; exact ⟨t', List.mem_cons_of_mem _ ht, e⟩, fun u hu2 => (hrun u).trans (h.2 u hu2)⟩⟩
        | ok r =>
          obtain ⟨ns, r⟩ := r
          rw [hq] at ih
          obtain ⟨d1, d2, rfl, rfl, hd⟩ := ih
          exact ⟨t :: d1, d2, rfl, rfl, fun h u hu2 => (hrun u).trans (hd h u hu2)⟩
theorem loc_dom : ∀ (c : List Tok) (acc : List Int) (E : Tok), E.kind = 4 → LocR c E (domQ (c ++ [E]) acc) (fun u => domQ (c ++ u) acc)
  | [], acc, E, hE => by
    rw [List.nil_append, domQ]
    split
    · exact ⟨[], [], rfl, rfl, fun h => absurd rfl h⟩
    · have : numberQ 1000000 [E] = .error (E.at_, 3) := by simp [numberQ, hE]
      rw [this]
      exact ⟨by decide, .inl rfl⟩
  | t :: q, acc, E, hE => by
    have hl := loc_num 1000000 (t :: q) E hE
    rw [List.cons_append, domQ]
    split
    · rename_i h0
      exact ⟨[], t :: q, rfl, rfl, fun _ u _ => by simp only [List.cons_append, domQ]; rw [if_pos h0]⟩
    · rename_i h0
      rw [← List.cons_append]
      cases hn : numberQ 1000000 (t :: q ++ [E]) with
      | error p =>
        obtain ⟨p, x⟩ := p
        rw [hn] at hl
        exact ⟨hl.1, hl.2.imp_right fun h => ⟨h.1, fun u hu => by
          have h3 : numberQ 1000000 (t :: q ++ u) = _ := h.2 u hu
          simp only [List.cons_append, domQ] at h3 ⊢
          rw [if_neg h0, h3]⟩⟩
      | ok r =>
        obtain ⟨l1, r⟩ := r
        rw [hn] at hl
        obtain ⟨c1, c2, hc, _, _, hu⟩ := hl
        have hrun : ∀ u, domQ (t :: q ++ u) acc = if 16 ≤ acc.length then .error (t.at_, 7) else if acc.length ≠ 0 ∧ t.n ≤ lastI acc then .error (t.at_, 6) else domQ (q ++ u) (acc ++ [t.n]) := fun u => by
          have h3 : numberQ 1000000 (t :: q ++ u) = _ := hu u
          simp only [List.cons_append, domQ] at h3 ⊢
          rw [if_neg h0, h3]
        simp only
        split
        · rename_i h16
          exact ⟨by decide, .inr ⟨⟨t, List.mem_cons_self .., rfl⟩, fun u _ => by simp only [hrun u]; rw [if_pos h16]⟩⟩
        · rename_i h16
          split
          · rename_i hlt
            exact ⟨by decide, .inr ⟨⟨t, List.mem_cons_self .., rfl⟩, fun u _ => by simp only [hrun u]; rw [if_neg h16, if_pos hlt]⟩⟩
          · rename_i hlt
            have ih := loc_dom q (acc ++ [t.n]) E hE
            have hrun2 : ∀ u, domQ (t :: q ++ u) acc = domQ (q ++ u) (acc ++ [t.n]) := fun u => by rw [hrun u, if_neg h16, if_neg hlt]
            cases hq : domQ (q ++ [E]) (acc ++ [t.n]) with
            | error p =>
              obtain ⟨p, x⟩ := p
              rw [hq] at ih
              exact ⟨ih.1, ih.2.imp_right fun h => ⟨by obtain ⟨t', ht, e⟩ := h.1; exact ⟨t', List.mem_cons_of_mem _ ht, e⟩, fun u hu2 => (hrun2 u).trans (h.2 u hu2)⟩⟩
            | ok r =>
              obtain ⟨ns, r⟩ := r
              rw [hq] at ih
              obtain ⟨d1, d2, rfl, rfl, hd⟩ := ih
              exact ⟨t :: d1, d2, rfl, rfl, fun h u hu2 => (hrun2 u).trans (hd h u hu2)⟩
/-- One thing behind another: the first leaves what it leaves, the second goes on with it. -/
theorem LocR.bind {α β : Type} {c : List Tok} {E : Tok} {res : PR α} {run : List Tok → PR α} {f : α → List Tok → PR β} (g : List Tok → PR β) (gE : PR β)
    (h1 : LocR c E res run) (hE : gE = (match res with | .error e => .error e | .ok (v, r) => f v r)) (hg : ∀ u, g u = (match run u with | .error e => .error e | .ok (v, r) => f v r))
    (h2 : ∀ v c1 c2, c = c1 ++ c2 → LocR c2 E (f v (c2 ++ [E])) (fun u => f v (c2 ++ u)))
    (h3 : ∀ v, ∃ x, f v [E] = .error (E.at_, x) ∧ x ≠ 0) : LocR c E gE g := by
  cases res with
  | error p =>
    obtain ⟨p, x⟩ := p
    rw [hE]
    exact ⟨h1.1, h1.2.imp_right fun h => ⟨h.1, fun u hu => by rw [hg, h.2 u hu]⟩⟩
  | ok r =>
    obtain ⟨v, r⟩ := r
    obtain ⟨c1, c2, hc, rfl, hu⟩ := h1
    rw [hE]
    simp only
    by_cases hn : c2 = []
    · subst hn
      obtain ⟨x, hx, hx0⟩ := h3 v
      rw [List.nil_append, hx]
      exact ⟨hx0, .inl rfl⟩
    · have ih := h2 v c1 c2 hc
      have hrun : ∀ u, u ≠ [] → g u = f v (c2 ++ u) := fun u hu2 => by rw [hg, hu hn u hu2]
      cases hq : f v (c2 ++ [E]) with
      | error p =>
        obtain ⟨p, x⟩ := p
        rw [hq] at ih
        exact ⟨ih.1, ih.2.imp_right fun h => ⟨by obtain ⟨t', ht, e⟩ := h.1; exact ⟨t', by rw [hc]; exact List.mem_append_right _ ht, e⟩, fun u hu2 => (hrun u hu2).trans (h.2 u hu2)⟩⟩
      | ok r =>
        obtain ⟨ns, r⟩ := r
        rw [hq] at ih
        obtain ⟨d1, d2, hd0, rfl, hd⟩ := ih
        exact ⟨c1 ++ d1, d2, by rw [hc, hd0]; simp, rfl, fun h u hu2 => (hrun u hu2).trans (hd h u hu2)⟩
/-- .. where the first leaves what it leaves whatever comes. -/
theorem LocV.bind {α β : Type} {c : List Tok} {E : Tok} {res : PR α} {run : List Tok → PR α} {f : α → List Tok → PR β} (g : List Tok → PR β) (gE : PR β)
    (h1 : LocV c E res run) (hE : gE = (match res with | .error e => .error e | .ok (v, r) => f v r)) (hg : ∀ u, g u = (match run u with | .error e => .error e | .ok (v, r) => f v r))
    (h2 : ∀ v c1 c2, c = c1 ++ c2 → LocR c2 E (f v (c2 ++ [E])) (fun u => f v (c2 ++ u))) : LocR c E gE g := by
  cases res with
  | error p =>
    obtain ⟨p, x⟩ := p
    rw [hE]
    exact ⟨h1.1, h1.2.imp_right fun h => ⟨h.1, fun u hu => by rw [hg, h.2 u hu]⟩⟩
  | ok r =>
    obtain ⟨v, r⟩ := r
    obtain ⟨c1, c2, hc, rfl, hu⟩ := h1
    rw [hE]
    simp only
    have ih := h2 v c1 c2 hc
    have hrun : ∀ u, g u = f v (c2 ++ u) := fun u => by rw [hg, hu u]
    cases hq : f v (c2 ++ [E]) with
    | error p =>
      obtain ⟨p, x⟩ := p
      rw [hq] at ih
      exact ⟨ih.1, ih.2.imp_right fun h => ⟨by obtain ⟨t', ht, e⟩ := h.1; exact ⟨t', by rw [hc]; exact List.mem_append_right _ ht, e⟩, fun u hu2 => (hrun u).trans (h.2 u hu2)⟩⟩
    | ok r =>
      obtain ⟨ns, r⟩ := r
      rw [hq] at ih
      obtain ⟨d1, d2, hd0, rfl, hd⟩ := ih
      exact ⟨c1 ++ d1, d2, by rw [hc, hd0]; simp, rfl, fun h u hu2 => (hrun u).trans (hd h u hu2)⟩
theorem LocS.toV {α : Type} {c : List Tok} {E : Tok} {res : PR α} {run : List Tok → PR α} (h : LocS c E res run) : LocV c E res run := by
  cases res with
  | error p => obtain ⟨p, x⟩ := p; exact h
  | ok r =>
    obtain ⟨v, r⟩ := r
    obtain ⟨c1, c2, hc, _, hr, hu⟩ := h
    exact ⟨c1, c2, hc, hr, hu⟩
theorem LocV.toR {α : Type} {c : List Tok} {E : Tok} {res : PR α} {run : List Tok → PR α} (h : LocV c E res run) : LocR c E res run := by
  cases res with
  | error p => obtain ⟨p, x⟩ := p; exact h
  | ok r =>
    obtain ⟨v, r⟩ := r
    obtain ⟨c1, c2, hc, hr, hu⟩ := h
    exact ⟨c1, c2, hc, hr, fun _ u _ => hu u⟩
end Go.Proofs.YtoahaigfjfeopaaGreatDoor

/- The parser looks no further than where it tells that something is wrong (statements). -/
namespace Go.Proofs.YtoahaigfjfeopaaGreatDoor

/-- One thing behind another. -/
def bnd {α β : Type} (res : PR α) (f : α → List Tok → PR β) : PR β := match res with
  | .error e => .error e
  | .ok (v, r) => f v r
/-- As LocR; what is wrong may be a token of d. -/
def LocW {α : Type} (d c : List Tok) (E : Tok) (res : PR α) (run : List Tok → PR α) : Prop :=
  match res with
  | .error (p, x) => x ≠ 0 ∧ (p = E.at_ ∨ (∃ t ∈ d, p = t.at_) ∧ ∀ u, u ≠ [] → run u = .error (p, x))
  | .ok (v, r) => ∃ c1 c2, c = c1 ++ c2 ∧ r = c2 ++ [E] ∧ (c2 ≠ [] → ∀ u, u ≠ [] → run u = .ok (v, c2 ++ u))
theorem LocR.toW {α : Type} {c d : List Tok} {E : Tok} {res : PR α} {run : List Tok → PR α} (h : LocR c E res run) (hd : ∀ t ∈ c, t ∈ d) : LocW d c E res run := by
  cases res with
  | error p =>
    obtain ⟨p, x⟩ := p
    exact ⟨h.1, h.2.imp_right fun h => ⟨by obtain ⟨t, ht, e⟩ := h.1; exact ⟨t, hd t ht, e⟩, h.2⟩⟩
  | ok r => exact h
theorem LocW.bind {α β : Type} {c : List Tok} {E : Tok} {res : PR α} {run : List Tok → PR α} {f : α → List Tok → PR β} {d : List Tok} (g : List Tok → PR β) (gE : PR β)
    (h1 : LocR c E res run) (hcd : ∀ t ∈ c, t ∈ d) (hE : gE = bnd res f) {f' : α → List Tok → PR β} (hg : ∀ u, g u = bnd (run u) f')
    (h2 : ∀ v c1 c2, c = c1 ++ c2 → c2 ≠ [] → res = .ok (v, c2 ++ [E]) → LocW d c2 E (f v (c2 ++ [E])) (fun u => f' v (c2 ++ u)))
    (h3 : ∀ v, ∃ x, f v [E] = .error (E.at_, x) ∧ x ≠ 0) : LocW d c E gE g := by
  cases res with
  | error p =>
    obtain ⟨p, x⟩ := p
    rw [hE]
    exact ⟨h1.1, h1.2.imp_right fun h => ⟨by obtain ⟨t, ht, e⟩ := h.1; exact ⟨t, hcd t ht, e⟩, fun u hu => by rw [hg, h.2 u hu]; rfl⟩⟩
  | ok r =>
    obtain ⟨v, r⟩ := r
    obtain ⟨c1, c2, hc, rfl, hu⟩ := h1
    rw [hE]
    simp only [bnd]
    by_cases hn : c2 = []
    · subst hn
      obtain ⟨x, hx, hx0⟩ := h3 v
      rw [List.nil_append, hx]
      exact ⟨hx0, .inl rfl⟩
    · have ih := h2 v c1 c2 hc hn rfl
      have hrun : ∀ u, u ≠ [] → g u = f' v (c2 ++ u) := fun u hu2 => by rw [hg, hu hn u hu2]; rfl
      cases hq : f v (c2 ++ [E]) with
      | error p =>
        obtain ⟨p, x⟩ := p
        rw [hq] at ih
        exact ⟨ih.1, ih.2.imp_right fun h => ⟨h.1, fun u hu2 => (hrun u hu2).trans (h.2 u hu2)⟩⟩
      | ok r =>
        obtain ⟨ns, r⟩ := r
        rw [hq] at ih
        obtain ⟨d1, d2, hd0, rfl, hd⟩ := ih
        exact ⟨c1 ++ d1, d2, by rw [hc, hd0]; simp, rfl, fun h u hu2 => (hrun u hu2).trans (hd h u hu2)⟩
theorem LocW.bindV {α β : Type} {c : List Tok} {E : Tok} {res : PR α} {run : List Tok → PR α} {f : α → List Tok → PR β} {d : List Tok} (g : List Tok → PR β) (gE : PR β)
    (h1 : LocV c E res run) (hcd : ∀ t ∈ c, t ∈ d) (hE : gE = bnd res f) {f' : α → List Tok → PR β} (hg : ∀ u, g u = bnd (run u) f')
    (h2 : ∀ v c1 c2, c = c1 ++ c2 → res = .ok (v, c2 ++ [E]) → LocW d c2 E (f v (c2 ++ [E])) (fun u => f' v (c2 ++ u))) : LocW d c E gE g := by
  cases res with
  | error p =>
    obtain ⟨p, x⟩ := p
    rw [hE]
    exact ⟨h1.1, h1.2.imp_right fun h => ⟨by obtain ⟨t, ht, e⟩ := h.1; exact ⟨t, hcd t ht, e⟩, fun u hu => by rw [hg, h.2 u hu]; rfl⟩⟩
  | ok r =>
    obtain ⟨v, r⟩ := r
    obtain ⟨c1, c2, hc, rfl, hu⟩ := h1
    rw [hE]
    simp only [bnd]
    have ih := h2 v c1 c2 hc rfl
    have hrun : ∀ u, g u = f' v (c2 ++ u) := fun u => by rw [hg, hu u]; rfl
    cases hq : f v (c2 ++ [E]) with
    | error p =>
      obtain ⟨p, x⟩ := p
      rw [hq] at ih
      exact ⟨ih.1, ih.2.imp_right fun h => ⟨h.1, fun u hu2 => (hrun u).trans (h.2 u hu2)⟩⟩
    | ok r =>
      obtain ⟨ns, r⟩ := r
      rw [hq] at ih
      obtain ⟨d1, d2, hd0, rfl, hd⟩ := ih
      exact ⟨c1 ++ d1, d2, by rw [hc, hd0]; simp, rfl, fun h u hu2 => (hrun u).trans (hd h u hu2)⟩
theorem num_mem {m : Int} {c c2 : List Tok} {E t : Tok} (h : numberQ m (c ++ [E]) = .ok (t, c2 ++ [E])) : c = t :: c2 := by
  have := (numberQ_s h).1
  rw [← List.cons_append] at this
  exact List.append_inj_left' this rfl
theorem sub_right {c c1 c2 : List Tok} (h : c = c1 ++ c2) : ∀ t ∈ c2, t ∈ c := fun t ht => by rw [h]; exact List.mem_append_right _ ht
theorem LocW.fail {α : Type} {d c : List Tok} {E t : Tok} {run : List Tok → PR α} {x : Int} (hx : x ≠ 0) (ht : t ∈ d) (h : ∀ u, run u = .error (t.at_, x)) : LocW d c E (.error (t.at_, x)) run :=
  ⟨hx, .inr ⟨⟨t, ht, rfl⟩, fun u _ => h u⟩⟩
/-- .. with as many rounds as the rest asks for. -/
theorem LocW.fuel {α : Type} {d c : List Tok} {E : Tok} {res : PR α} {run : Nat → List Tok → PR α} {N : Nat} (g : List Tok → Nat) (h : ∀ n', N ≤ n' → LocW d c E res (run n')) (hg : ∀ u, u ≠ [] → N ≤ g u) : LocW d c E res (fun u => run (g u) u) := by
  cases res with
  | error p =>
    obtain ⟨p, x⟩ := p
    have h0 := h N (Nat.le_refl _)
    refine ⟨h0.1, ?_⟩
    rcases h0.2 with h1 | h1
    · exact .inl h1
    · by_cases hpe : p = E.at_
      · exact .inl hpe
      · refine .inr ⟨h1.1, fun u hu => ?_⟩
        rcases (h _ (hg u hu)).2 with h2 | h2
        · exact absurd h2 hpe
        · exact h2.2 u hu
  | ok r =>
    obtain ⟨v, r⟩ := r
    obtain ⟨c1, c2, hc, hr, _⟩ := h N (Nat.le_refl _)
    refine ⟨c1, c2, hc, hr, fun hn u hu => ?_⟩
    obtain ⟨d1, d2, hd, hr2, hu2⟩ := h _ (hg u hu)
    have : d2 = c2 := by rw [hr] at hr2; exact (List.append_inj_left' hr2 rfl).symm
    subst this
    exact hu2 hn u hu
theorem LocW.map {α β : Type} {d c : List Tok} {E : Tok} {res : PR α} {run : List Tok → PR α} (F : α → β) (h : LocW d c E res run) :
    LocW d c E (bnd res fun v r => .ok (F v, r)) (fun u => bnd (run u) fun v r => .ok (F v, r)) := by
  cases res with
  | error p =>
    obtain ⟨p, x⟩ := p
    exact ⟨h.1, h.2.imp_right fun h => ⟨h.1, fun u hu => by simp only [h.2 u hu, bnd]⟩⟩
  | ok r =>
    obtain ⟨v, r⟩ := r
    obtain ⟨c1, c2, hc, hr, hu⟩ := h
    exact ⟨c1, c2, hc, hr, fun hn u hu2 => by simp only [hu hn u hu2, bnd]⟩
/-- .. behind tokens that were read. -/
theorem LocW.ahead {α : Type} {d c : List Tok} {E : Tok} {res : PR α} {run : List Tok → PR α} (b : List Tok) (h : LocW d c E res run) : LocW d (b ++ c) E res run := by
  cases res with
  | error p => obtain ⟨p, x⟩ := p; exact h
  | ok r =>
    obtain ⟨v, r⟩ := r
    obtain ⟨c1, c2, hc, hr, hu⟩ := h
    exact ⟨b ++ c1, c2, by rw [hc, List.append_assoc], hr, hu⟩
theorem LocW.toR {α : Type} {c : List Tok} {E : Tok} {res : PR α} {run : List Tok → PR α} (h : LocW c c E res run) : LocR c E res run := by
  cases res with
  | error p => obtain ⟨p, x⟩ := p; exact h
  | ok r => exact h
theorem isQ_yes' {k : Tok} {s : List UInt8} (hp : isP k s = true) (u : List Tok) : isQ s (k :: u) = (true, u) := by simp [isQ, hp]
theorem isQ_no' {k : Tok} {s : List UInt8} (hp : ¬ isP k s = true) (u : List Tok) : isQ s (k :: u) = (false, k :: u) := by simp [isQ, hp]
def termsF (nd n : Nat) (args : List Int) (t : Tok) (scope' : List Int) (r' : List Tok) : PR (List Int × List Int) :=
  if (isQ [44] r').1 then termsQ nd n (args ++ [t.n]) scope' (isQ [44] r').2 else .ok ((args ++ [t.n], scope'), r')
def termsG (nd n : Nat) (args scope : List Int) (t : Tok) (r : List Tok) : PR (List Int × List Int) :=
  if t.n = 0 then .error (t.at_, 4) else bnd (varQ nd scope r) (termsF nd n args t)
theorem termsQ_eq (nd n : Nat) (args scope : List Int) (ts : List Tok) : termsQ nd (n + 1) args scope ts = bnd (numberQ 1000000 ts) (termsG nd n args scope) := by
  rw [termsQ]
  cases numberQ 1000000 ts with
  | error e => rfl
  | ok p =>
    obtain ⟨t, r⟩ := p
    simp only [bnd, termsG]
    split
    · rfl
    · cases varQ nd scope r <;> rfl
theorem loc_terms (nd : Nat) : ∀ (n : Nat) (args scope : List Int) (c d : List Tok) (E : Tok), E.kind = 4 → c.length < n → (∀ t ∈ c, t ∈ d) → ∀ n', n ≤ n' → LocW d c E (termsQ nd n args scope (c ++ [E])) (fun u => termsQ nd n' args scope (c ++ u))
  | 0, _, _, c, _, _, _, hn, _, _, _ => by omega
  | n + 1, _, _, c, _, _, _, hn, _, 0, _ => by omega
  | n + 1, args, scope, c, d, E, hE, hlen, hd, n' + 1, hn' => by
    refine LocW.bindV (f := termsG nd n args scope) (f' := termsG nd n' args scope) _ _ (loc_num 1000000 c E hE).toV hd (termsQ_eq nd n args scope _) (fun u => termsQ_eq nd n' args scope _) ?_
    intro t c1 c2 hc hq
    have hm := num_mem hq
    by_cases h0 : t.n = 0
    · have e : ∀ m r, termsG nd m args scope t r = .error (t.at_, 4) := fun m r => by rw [termsG, if_pos h0]
      rw [e]
      exact LocW.fail (by decide) (hd t (by rw [hm]; exact List.mem_cons_self ..)) fun u => e _ _
    · have e : ∀ m r, termsG nd m args scope t r = bnd (varQ nd scope r) (termsF nd m args t) := fun m r => by rw [termsG, if_neg h0]
      refine LocW.bindV (f := termsF nd n args t) (f' := termsF nd n' args t) _ _ (loc_var nd scope c2 E hE).toV (fun t ht => hd t (sub_right hc t ht)) (e _ _) (fun u => e _ _) ?_
      intro sc d1 d2 hdd _
      cases d2 with
      | nil =>
        have : termsF nd n args t sc ([] ++ [E]) = .ok ((args ++ [t.n], sc), [E]) := by
          rw [List.nil_append, termsF, if_neg (by simp [isQ, isP_end hE])]
        rw [this]
        exact ⟨[], [], rfl, rfl, fun h => absurd rfl h⟩
      | cons k q =>
        have hlc : c.length = 1 + (d1.length + (1 + q.length)) := by
          rw [hm, hdd]; simp; omega
        by_cases hp : isP k [44] = true
        · have e2 : ∀ m u, termsF nd m args t sc (k :: q ++ u) = termsQ nd m (args ++ [t.n]) sc (q ++ u) := fun m u => by
            rw [termsF, List.cons_append, isQ_yes' hp, if_pos rfl]
          have ih := loc_terms nd n (args ++ [t.n]) sc q d E hE (by omega) (fun t ht => hd t (by rw [hm, hdd]; simp [ht])) n' (by omega)
          simp only [e2]
          exact LocW.ahead [k] ih
        · have e2 : ∀ m u, termsF nd m args t sc (k :: q ++ u) = .ok ((args ++ [t.n], sc), k :: q ++ u) := fun m u => by
            rw [termsF, List.cons_append, isQ_no' hp, if_neg (by simp)]
          simp only [e2]
          exact ⟨[], k :: q, rfl, rfl, fun _ u _ => rfl⟩
def linH (p : List Int × List Int) (how : Int) (u : Tok) (r2 : List Tok) : PR (List Int × List Int) := .ok ((p.1 ++ [how, u.n], p.2), r2)
def linG (p : List Int × List Int) (_ : Unit) (r1 : List Tok) : PR (List Int × List Int) :=
  let t := (nextQ r1).1
  let how := wordFrom t.text 0 howsT
  if t.kind = 1 ∧ 0 ≤ how then bnd (numberQ 1000000 (nextQ r1).2) (linH p how) else .error (t.at_, 3)
def linF (p : List Int × List Int) (r : List Tok) : PR (List Int × List Int) := bnd (signQ [58] r) (linG p)
theorem linearQ_bnd (nd : Nat) (ts : List Tok) : linearQ nd ts = bnd (termsQ nd (ts.length + 1) [] [] ts) linF := by
  rw [linearQ]
  cases termsQ nd (ts.length + 1) [] [] ts with
  | error e => rfl
  | ok p =>
    obtain ⟨⟨args, scope⟩, r⟩ := p
    simp only [bnd, linF]
    cases signQ [58] r with
    | error e => rfl
    | ok p =>
      obtain ⟨v, r1⟩ := p
      simp only [linG]
      split
      · cases numberQ 1000000 (nextQ r1).2 <;> rfl
      · rfl
theorem loc_linear (nd : Nat) (c : List Tok) (E : Tok) (hE : E.kind = 4) : LocR c E (linearQ nd (c ++ [E])) (fun u => linearQ nd (c ++ u)) := by
  have ht := LocW.fuel (run := fun n' u => termsQ nd n' [] [] (c ++ u)) (N := (c ++ [E]).length + 1) (fun u => (c ++ u).length + 1) (fun n' hn' => loc_terms nd _ [] [] c c E hE (by simp; omega) (fun _ h => h) n' hn') (fun u hu => by have := List.length_pos_iff.2 hu; simp; omega)
  refine (LocW.bind (d := c) (f := linF) (f' := linF) _ _ ht.toR (fun _ h => h) (linearQ_bnd nd _) (fun u => linearQ_bnd nd _) ?_ ?_).toR
  · intro p c1 c2 hc _ _
    refine LocW.bindV (f := linG p) (f' := linG p) _ _ (loc_sign [58] c2 E hE).toV (sub_right hc) rfl (fun u => rfl) ?_
    intro v d1 d2 hdd _
    cases d2 with
    | nil =>
      have : linG p v ([] ++ [E]) = .error (E.at_, 3) := by
        rw [List.nil_append, linG]
        rw [if_neg (by simp [nextQ, hE])]
        rfl
      rw [this]
      exact ⟨by decide, .inl rfl⟩
    | cons k q =>
      have hk : k ∈ c := by rw [hc, hdd]; simp
      by_cases hh : k.kind = 1 ∧ 0 ≤ wordFrom k.text 0 howsT
      · have h4 : ¬ k.kind = 4 := by have := hh.1; omega
        have hnx : ∀ u, nextQ (k :: q ++ u) = (k, q ++ u) := fun u => by simp [nextQ, h4]
        have e : ∀ u, linG p v (k :: q ++ u) = bnd (numberQ 1000000 (q ++ u)) (linH p (wordFrom k.text 0 howsT)) := fun u => by
          rw [linG]
          simp only [hnx]
          rw [if_pos hh]
        refine LocW.ahead [k] (LocW.bindV (f := linH p (wordFrom k.text 0 howsT)) (f' := linH p (wordFrom k.text 0 howsT)) _ _ (loc_num 1000000 q E hE).toV (fun t ht => by rw [hc, hdd]; simp [ht]) (e _) (fun u => e u) ?_)
        intro w e1 e2 he _
        exact ⟨[], e2, rfl, rfl, fun _ u _ => rfl⟩
      · have e : ∀ u, linG p v (k :: q ++ u) = .error (k.at_, 3) := fun u => by
          have h1 : (nextQ (k :: q ++ u)).1 = k := by simp [nextQ]
          rw [linG]
          simp only [h1]
          rw [if_neg hh]
        simp only [e]
        exact LocW.fail (by decide) hk fun u => rfl
  · intro p
    refine ⟨3, ?_, by decide⟩
    have : signQ [58] [E] = .error (E.at_, 3) := by simp [signQ, isP, hE]
    rw [linF, this]; rfl
/-! ### Soft constraints -/
def costH (doms : List (List Int)) (scope : List Int) (n : Nat) (costs : List Int) (rows' : List (List Int)) (t : Tok) (r' : List Tok) : PR (List (List Int) × List Int) := costsQ doms scope n rows' (costs ++ [t.n]) r'
def costG (doms : List (List Int)) (scope : List Int) (n : Nat) (costs : List Int) (rows' : List (List Int)) (r : List Tok) : PR (List (List Int) × List Int) := bnd (numberQ 1000000000000 r) (costH doms scope n costs rows')
theorem loc_costs (doms : List (List Int)) (scope : List Int) : ∀ (n : Nat) (rows : List (List Int)) (costs : List Int) (c d : List Tok) (E : Tok), E.kind = 4 → c.length < n → (∀ t ∈ c, t ∈ d) → ∀ n', n ≤ n' → LocW d c E (costsQ doms scope n rows costs (c ++ [E])) (fun u => costsQ doms scope n' rows costs (c ++ u))
  | 0, _, _, c, _, _, _, hn, _, _, _ => by omega
  | n + 1, _, _, c, _, _, _, hn, _, 0, _ => by omega
  | n + 1, rows, costs, c, d, E, hE, hlen, hd, n' + 1, hn' => by
    cases c with
    | nil =>
      have : costsQ doms scope (n + 1) rows costs ([] ++ [E]) = .ok ((rows, costs), [E]) := by
        rw [List.nil_append, costsQ, if_neg (by simp [isQ, isP_end hE])]
      rw [this]
      exact ⟨[], [], rfl, rfl, fun h => absurd rfl h⟩
    | cons k q =>
      by_cases hp : isP k [44] = true
      · have e : ∀ m u, costsQ doms scope (m + 1) rows costs (k :: q ++ u) = bnd (rowQ doms scope rows (q ++ u)) (costG doms scope m costs) := fun m u => by
          rw [costsQ, List.cons_append, isQ_yes' hp, if_pos rfl]
          cases rowQ doms scope rows (q ++ u) with
          | error e => rfl
          | ok p =>
            obtain ⟨rows', r⟩ := p
            simp only [bnd, costG]
            cases numberQ 1000000000000 r <;> rfl
        refine LocW.ahead [k] (LocW.bindV (f := costG doms scope n costs) (f' := costG doms scope n' costs) _ _ (loc_row doms scope rows q E hE) (fun t ht => hd t (List.mem_cons_of_mem _ ht)) (e _ _) (fun u => e _ _) ?_)
        intro rows' c1 c2 hc _
        refine LocW.bindV (f := costH doms scope n costs rows') (f' := costH doms scope n' costs rows') _ _ (loc_num 1000000000000 c2 E hE).toV (fun t ht => hd t (List.mem_cons_of_mem _ (sub_right hc t ht))) rfl (fun u => rfl) ?_
        intro t d1 d2 hdd _
        exact loc_costs doms scope n rows' (costs ++ [t.n]) d2 d E hE (by have : (k :: q).length = 1 + (c1.length + (d1.length + d2.length)) := by rw [hc, hdd]; simp; omega
                                                                          omega) (fun t ht => hd t (List.mem_cons_of_mem _ (sub_right hc t (sub_right hdd t ht)))) n' (by omega)
      · have e : ∀ m u, costsQ doms scope (m + 1) rows costs (k :: q ++ u) = .ok ((rows, costs), k :: q ++ u) := fun m u => by
          rw [costsQ, List.cons_append, isQ_no' hp, if_neg (by simp)]
        simp only [e]
        exact ⟨[], k :: q, rfl, rfl, fun _ u _ => rfl⟩
def softM (scope : List Int) (t : Tok) (p : List (List Int) × List Int) : Sft := ⟨scope, p.1, p.2, t.n⟩
def softH (doms : List (List Int)) (scope : List Int) (t : Tok) (r2 : List Tok) : PR Sft := bnd (costsQ doms scope (r2.length + 1) [] [] r2) fun p r3 => .ok (softM scope t p, r3)
def softG (doms : List (List Int)) (scope : List Int) (_ : Unit) (r1 : List Tok) : PR Sft := bnd (numberQ 1000000000000 r1) (softH doms scope)
def softF (doms : List (List Int)) (scope : List Int) (r : List Tok) : PR Sft := bnd (signQ [58] r) (softG doms scope)
theorem softQ_eq (doms : List (List Int)) (ts : List Tok) : softQ doms ts = bnd (scopeQ doms.length ts []) (softF doms) := by
  rw [softQ]
  cases scopeQ doms.length ts [] with
  | error e => rfl
  | ok p =>
    obtain ⟨scope, r⟩ := p
    simp only [bnd, softF]
    cases signQ [58] r with
    | error e => rfl
    | ok p =>
      obtain ⟨v, r1⟩ := p
      simp only [softG, bnd]
      cases numberQ 1000000000000 r1 with
      | error e => rfl
      | ok p =>
        obtain ⟨t, r2⟩ := p
        simp only [softH, bnd]
        cases costsQ doms scope (r2.length + 1) [] [] r2 <;> rfl
theorem sign_none (s : List UInt8) (E : Tok) (hE : E.kind = 4) : signQ s [E] = .error (E.at_, 3) := by simp [signQ, isP, hE]
theorem loc_soft (doms : List (List Int)) (c : List Tok) (E : Tok) (hE : E.kind = 4) : LocR c E (softQ doms (c ++ [E])) (fun u => softQ doms (c ++ u)) := by
  refine (LocW.bind (d := c) (f := softF doms) (f' := softF doms) _ _ (loc_scope doms.length c [] E hE) (fun _ h => h) (softQ_eq doms _) (fun u => softQ_eq doms _) ?_ ?_).toR
  · intro scope c1 c2 hc _ _
    refine LocW.bindV (f := softG doms scope) (f' := softG doms scope) _ _ (loc_sign [58] c2 E hE).toV (sub_right hc) rfl (fun u => rfl) ?_
    intro v d1 d2 hdd _
    refine LocW.bindV (f := softH doms scope) (f' := softH doms scope) _ _ (loc_num 1000000000000 d2 E hE).toV (fun t ht => sub_right hc t (sub_right hdd t ht)) rfl (fun u => rfl) ?_
    intro t e1 e2 hee _
    exact LocW.map (softM scope t) (LocW.fuel (run := fun n' u => costsQ doms scope n' [] [] (e2 ++ u)) (N := (e2 ++ [E]).length + 1) (fun u => (e2 ++ u).length + 1) (fun n' hn' => loc_costs doms scope _ [] [] e2 c E hE (by simp; omega) (fun t ht => sub_right hc t (sub_right hdd t (sub_right hee t ht))) n' hn') (fun u hu => by have := List.length_pos_iff.2 hu; simp; omega))
  · intro scope
    exact ⟨3, by rw [softF, sign_none _ E hE]; rfl, by decide⟩
/-! ### Hard constraints -/
def hardM6 (kind : Int) (p : List Int × List Int) : Con := ⟨kind, p.2, [], p.1⟩
def hardMT (kind : Int) (scope : List Int) (rows : List (List Int)) : Con := ⟨kind, scope, rows, []⟩
def hardF (doms : List (List Int)) (kind : Int) (scope : List Int) (r : List Tok) : PR Con := bnd (tableQ doms scope r) fun rows r' => .ok (hardMT kind scope rows, r')
theorem loc_hard (doms : List (List Int)) (kind : Int) (c : List Tok) (E : Tok) (hE : E.kind = 4) : LocR c E (hardQ doms kind (c ++ [E])) (fun u => hardQ doms kind (c ++ u)) := by
  by_cases h6 : kind = 6
  · have e : ∀ u, hardQ doms kind u = bnd (linearQ doms.length u) fun p r => .ok (hardM6 kind p, r) := fun u => by rw [hardQ, if_pos h6]; cases linearQ doms.length u <;> rfl
    simp only [e]
    exact (LocW.map (hardM6 kind) ((loc_linear doms.length c E hE).toW (fun _ h => h))).toR
  · by_cases h2 : kind ≤ 2
    · have e : ∀ u, hardQ doms kind u = bnd (scopeQ doms.length u []) (hardF doms kind) := fun u => by
        rw [hardQ, if_neg h6]
        cases scopeQ doms.length u [] with
        | error e => rfl
        | ok p =>
          obtain ⟨scope, r⟩ := p
          simp only [if_pos h2, bnd, hardF]
          cases tableQ doms scope r <;> rfl
      refine (LocW.bind (d := c) (f := hardF doms kind) (f' := hardF doms kind) _ _ (loc_scope doms.length c [] E hE) (fun _ h => h) (e _) (fun u => e _) ?_ ?_).toR
      · intro scope c1 c2 hc _ _
        exact LocW.map (hardMT kind scope) ((loc_table doms scope c2 E hE).toW (sub_right hc))
      · intro scope
        exact ⟨3, by rw [hardF, tableQ, sign_none _ E hE]; rfl, by decide⟩
    · have e : ∀ u, hardQ doms kind u = bnd (scopeQ doms.length u []) fun scope r => .ok (hardMT kind scope [], r) := fun u => by
        rw [hardQ, if_neg h6]
        cases scopeQ doms.length u [] with
        | error e => rfl
        | ok p => simp only [if_neg h2]; rfl
      simp only [e]
      exact (LocW.map (fun scope => hardMT kind scope []) ((loc_scope doms.length c [] E hE).toW (fun _ h => h))).toR
end Go.Proofs.YtoahaigfjfeopaaGreatDoor

/- The parser looks no further than where it tells that something is wrong (texts); what a text's tokens are. -/
namespace Go.Proofs.YtoahaigfjfeopaaGreatDoor

def stBody (x : Ins) (t : Tok) (r : List Tok) : PR Ins :=
  if t.text = varT then (if 40 ≤ x.doms.length then Except.error (t.at_, 7) else match domQ r [] with
    | .error e => .error e
    | .ok (d, r') => .ok ({ x with doms := x.doms ++ [d] }, r'))
  else if t.text = softT then (if 200 ≤ x.soft.length then .error (t.at_, 7) else match softQ x.doms r with
    | .error e => .error e
    | .ok (s, r') => .ok ({ x with soft := x.soft ++ [s] }, r'))
  else (if 200 ≤ x.hard.length then .error (t.at_, 7) else match hardQ x.doms (wordFrom t.text 0 wordsT) r with
    | .error e => .error e
    | .ok (c, r') => .ok ({ x with hard := x.hard ++ [c] }, r'))
theorem stmtQ_good {x : Ins} {t : Tok} (h4 : ¬ t.kind = 4) (hg : t.kind = 1 ∧ (0 < wordFrom t.text 0 wordsT ∨ t.text = varT ∨ t.text = softT)) (q : List Tok) : stmtQ x (t :: q) = match stBody x t q with
    | .error e => .error e
    | .ok (y, r') => match signQ [59] r' with
      | .error e => .error e
      | .ok (_, r2) => .ok (y, r2) := by
  simp only [stmtQ, nextQ, if_neg h4]
  rw [if_neg (fun hx => hx hg)]
  rfl
theorem loc_body (x : Ins) (t : Tok) (q : List Tok) (E : Tok) (hE : E.kind = 4) : LocW (t :: q) q E (stBody x t (q ++ [E])) (fun u => stBody x t (q ++ u)) := by
  have hsub : ∀ s ∈ q, s ∈ t :: q := fun s hs => List.mem_cons_of_mem _ hs
  by_cases hv : t.text = varT
  · by_cases h40 : 40 ≤ x.doms.length
    · have e : ∀ u, stBody x t u = .error (t.at_, 7) := fun u => by rw [stBody, if_pos hv, if_pos h40]
      simp only [e]
      exact LocW.fail (by decide) (List.mem_cons_self ..) fun u => rfl
    · have e : ∀ u, stBody x t u = bnd (domQ u []) fun d r' => .ok ((fun d => { x with doms := x.doms ++ [d] }) d, r') := fun u => by rw [stBody, if_pos hv, if_neg h40]; cases domQ u [] <;> rfl
      simp only [e]
      exact LocW.map _ ((loc_dom q [] E hE).toW hsub)
  · by_cases hs : t.text = softT
    · by_cases h40 : 200 ≤ x.soft.length
      · have e : ∀ u, stBody x t u = .error (t.at_, 7) := fun u => by rw [stBody, if_neg hv, if_pos hs, if_pos h40]
        simp only [e]
        exact LocW.fail (by decide) (List.mem_cons_self ..) fun u => rfl
      · have e : ∀ u, stBody x t u = bnd (softQ x.doms u) fun d r' => .ok ((fun d => { x with soft := x.soft ++ [d] }) d, r') := fun u => by rw [stBody, if_neg hv, if_pos hs, if_neg h40]; cases softQ x.doms u <;> rfl
        simp only [e]
        exact LocW.map _ ((loc_soft x.doms q E hE).toW hsub)
    · by_cases h40 : 200 ≤ x.hard.length
      · have e : ∀ u, stBody x t u = .error (t.at_, 7) := fun u => by rw [stBody, if_neg hv, if_neg hs, if_pos h40]
        simp only [e]
        exact LocW.fail (by decide) (List.mem_cons_self ..) fun u => rfl
      · have e : ∀ u, stBody x t u = bnd (hardQ x.doms (wordFrom t.text 0 wordsT) u) fun d r' => .ok ((fun d => { x with hard := x.hard ++ [d] }) d, r') := fun u => by rw [stBody, if_neg hv, if_neg hs, if_neg h40]; cases hardQ x.doms (wordFrom t.text 0 wordsT) u <;> rfl
        simp only [e]
        exact LocW.map _ ((loc_hard x.doms _ q E hE).toW hsub)
/-- As LocR; something is read, and what is left goes on with anything. -/
def LocT {α : Type} (c : List Tok) (E : Tok) (res : PR α) (run : List Tok → PR α) : Prop :=
  match res with
  | .error (p, x) => x ≠ 0 ∧ (p = E.at_ ∨ (∃ t ∈ c, p = t.at_) ∧ ∀ u, u ≠ [] → run u = .error (p, x))
  | .ok (v, r) => ∃ c1 c2, c = c1 ++ c2 ∧ c1 ≠ [] ∧ r = c2 ++ [E] ∧ ∀ u, u ≠ [] → run u = .ok (v, c2 ++ u)
theorem loc_stmt (x : Ins) (t : Tok) (q : List Tok) (E : Tok) (hE : E.kind = 4) (h4 : ¬ t.kind = 4) : LocT (t :: q) E (stmtQ x (t :: q ++ [E])) (fun u => stmtQ x (t :: q ++ u)) := by
  by_cases hg : t.kind = 1 ∧ (0 < wordFrom t.text 0 wordsT ∨ t.text = varT ∨ t.text = softT)
  · have e : ∀ u, stmtQ x (t :: q ++ u) = match stBody x t (q ++ u) with
        | .error e => .error e
        | .ok (y, r') => match signQ [59] r' with
          | .error e => .error e
          | .ok (_, r2) => .ok (y, r2) := fun u => stmtQ_good h4 hg (q ++ u)
    have hb := loc_body x t q E hE
    rw [e]
    cases hq : stBody x t (q ++ [E]) with
    | error p =>
      obtain ⟨p, k⟩ := p
      rw [hq] at hb
      exact ⟨hb.1, hb.2.imp_right fun h => ⟨h.1, fun u hu => by
        have h2 : stBody x t (q ++ u) = _ := h.2 u hu
        simp only [e, h2]⟩⟩
    | ok r =>
      obtain ⟨y, r⟩ := r
      rw [hq] at hb
      obtain ⟨c1, c2, rfl, rfl, hu⟩ := hb
      simp only
      by_cases hn : c2 = []
      · subst hn
        rw [List.nil_append, sign_none _ E hE]
        exact ⟨by decide, .inl rfl⟩
      · have hrun : ∀ u, u ≠ [] → stmtQ x (t :: (c1 ++ c2) ++ u) = match signQ [59] (c2 ++ u) with
            | .error e => .error e
            | .ok (_, r2) => .ok (y, r2) := fun u hu2 => by
          have h2 : stBody x t (c1 ++ c2 ++ u) = _ := hu hn u hu2
          rw [e, h2]
        have hs := loc_sign [59] c2 E hE
        cases hq2 : signQ [59] (c2 ++ [E]) with
        | error p =>
          obtain ⟨p, k⟩ := p
          rw [hq2] at hs
          exact ⟨hs.1, hs.2.imp_right fun h => ⟨by obtain ⟨s, hs, hp⟩ := h.1; exact ⟨s, by simp [hs], hp⟩, fun u hu2 => by
            have h2 : signQ [59] (c2 ++ u) = _ := h.2 u hu2
            simp only [hrun u hu2, h2]⟩⟩
        | ok r =>
          obtain ⟨v, r⟩ := r
          rw [hq2] at hs
          obtain ⟨d1, d2, rfl, _, rfl, hd⟩ := hs
          exact ⟨t :: (c1 ++ d1), d2, by simp, by simp, rfl, fun u hu2 => by
            have h2 : signQ [59] (d1 ++ d2 ++ u) = _ := hd u
            simp only [hrun u hu2, h2]⟩
  · have e : ∀ u, stmtQ x (t :: q ++ u) = .error (t.at_, 3) := fun u => stmtQ_bad hg
    simp only [e]
    exact ⟨by decide, .inr ⟨⟨t, List.mem_cons_self .., rfl⟩, fun u _ => rfl⟩⟩
def LocZ (n : Nat) (x : Ins) (c : List Tok) (E : Tok) : Prop := match stmtsQ n x (c ++ [E]) with
  | .error (p, e) => e ≠ 0 ∧ (p = E.at_ ∨ (∃ t ∈ c, p = t.at_) ∧ ∀ u, u ≠ [] → ∀ n', n ≤ n' → stmtsQ n' x (c ++ u) = .error (p, e))
  | .ok y => ∀ u, u ≠ [] → ∀ n', n ≤ n' → ∃ n'', n' ≤ n'' + c.length ∧ stmtsQ n' x (c ++ u) = stmtsQ n'' y u
theorem loc_stmts : ∀ (n : Nat) (x : Ins) (c : List Tok) (E : Tok), E.kind = 4 → (∀ t ∈ c, ¬ t.kind = 4) → c.length < n → LocZ n x c E
  | 0, _, c, _, _, _, hn => by omega
  | n + 1, x, [], E, hE, _, _ => by
    have : stmtsQ (n + 1) x ([] ++ [E]) = .ok x := by rw [List.nil_append, stmtsQ_end hE]
    rw [LocZ, this]
    intro u _ n' _
    exact ⟨n', by simp, rfl⟩
  | n + 1, x, t :: q, E, hE, hc, hn => by
    have h4 := hc t (List.mem_cons_self ..)
    have hs := loc_stmt x t q E hE h4
    rw [LocZ, List.cons_append]
    rw [List.cons_append] at hs
    cases hq : stmtQ x (t :: (q ++ [E])) with
    | error p =>
      obtain ⟨p, k⟩ := p
      rw [hq] at hs
      rw [stmtsQ_err h4 hq]
      refine ⟨hs.1, hs.2.imp_right fun h => ⟨h.1, fun u hu n' hn' => ?_⟩⟩
      cases n' with
      | zero => omega
      | succ n' => exact stmtsQ_err h4 (h.2 u hu)
    | ok r =>
      obtain ⟨y, r⟩ := r
      rw [hq] at hs
      rw [stmtsQ_go h4 hq]
      obtain ⟨c1, c2, hcc, hne, rfl, hu⟩ := hs
      have hl : (t :: q).length = c1.length + c2.length := by rw [hcc, List.length_append]
      have hp := List.length_pos_iff.2 hne
      have ih := loc_stmts n y c2 E hE (fun s hs => hc s (by rw [hcc]; exact List.mem_append_right _ hs)) (by omega)
      rw [LocZ] at ih
      cases hq2 : stmtsQ n y (c2 ++ [E]) with
      | error p =>
        obtain ⟨p, k⟩ := p
        rw [hq2] at ih
        refine ⟨ih.1, ih.2.imp_right fun h => ⟨by obtain ⟨s, hs, hp⟩ := h.1; exact ⟨s, by rw [hcc]; exact List.mem_append_right _ hs, hp⟩, fun u hu2 n' hn' => ?_⟩⟩
        cases n' with
        | zero => omega
        | succ n' =>
          have h2 := hu u hu2
          simp only [List.cons_append] at h2 ⊢
          rw [stmtsQ_go h4 h2]
          exact h.2 u hu2 n' (by omega)
      | ok z =>
        rw [hq2] at ih
        intro u hu2 n' hn'
        cases n' with
        | zero => omega
        | succ n' =>
          obtain ⟨n'', h3, h5⟩ := ih u hu2 n' (by omega)
          have h2 := hu u hu2
          simp only [List.cons_append] at h2 ⊢
          rw [stmtsQ_go h4 h2]
          exact ⟨n'', by simp only [List.length_cons] at hl ⊢; omega, h5⟩

/-! ### A text's tokens -/
theorem tok_ok {l : List UInt8} {t : Tok} {k : Nat} (h : tokenP l = .ok (t, k)) (a : Int) : TokOk { t with at_ := a } ∧ ¬ t.kind = 4 := by
  cases l with
  | nil => cases h
  | cons c r =>
    simp only [tokenP] at h
    split at h
    · rename_i hc
      injection h with h; injection h with h _
      subst h
      refine ⟨.inr (.inr (.inl ⟨c, rfl, ?_⟩)), by simp⟩
      rcases hc with hc | hc | hc
      · exact .inl (UInt8.toNat_inj.1 hc)
      · exact .inr (.inl (UInt8.toNat_inj.1 hc))
      · exact .inr (.inr (UInt8.toNat_inj.1 hc))
    · split at h
      · rename_i hw
        injection h with h; injection h with h _
        subst h
        have h1 : 0 < runP isLetter (c :: r) := by unfold runP; rw [if_pos hw]; omega
        refine ⟨.inr (.inl ⟨rfl, ?_, fun d hd => run_mem isLetter _ d hd⟩), by simp⟩
        intro e
        have := congrArg List.length e
        rw [List.length_take] at this
        have := runP_le isLetter (c :: r)
        simp only [List.length_nil] at *
        omega
      · split at h
        · split at h
          · injection h with h; injection h with h _
            subst h
            exact ⟨.inl rfl, by simp⟩
          · cases h
        · cases h
theorem scan_ok : ∀ (f a : Nat) (l : List UInt8) (ts : List Tok), l.length < f → scanP f a l = .ok ts → ∃ (c : List Tok) (E : Tok), ts = c ++ [E] ∧ E.kind = 4 ∧ E.at_ = (a : Int) + l.length ∧ AllOk (c ++ [E]) ∧ (∀ t ∈ c, ¬ t.kind = 4 ∧ (a : Int) ≤ t.at_ ∧ t.at_ < (a : Int) + l.length) ∧ c.length ≤ l.length
  | 0, a, l, ts, hf, _ => by omega
  | f + 1, a, l, ts, hf, h => by
    rw [scanP] at h
    split at h
    · rename_i hl
      injection h with h
      subst h hl
      refine ⟨[], ⟨4, [], 0, a⟩, rfl, rfl, by simp, fun t ht => ?_, by simp, by simp⟩
      rw [List.nil_append, List.mem_singleton] at ht
      subst ht
      exact .inr (.inr (.inr rfl))
    · split at h
      · rename_i h0
        have hle := leftP_le l
        obtain ⟨c, E, h1, h2, h3, h4, h5, h6⟩ := scan_ok f (a + leftP l) (l.drop (leftP l)) ts (by rw [List.length_drop]; omega) h
        rw [List.length_drop] at h3 h5 h6
        refine ⟨c, E, h1, h2, by omega, h4, fun t ht => ?_, by omega⟩
        have := h5 t ht
        exact ⟨this.1, by omega, by omega⟩
      · cases ht : tokenP l with
        | error e => rw [ht] at h; cases h
        | ok p =>
          obtain ⟨t, k⟩ := p
          rw [ht] at h
          have hk := tokenP_size ht
          cases hr : scanP f (a + k) (l.drop k) with
          | error e => simp only [hr] at h; cases h
          | ok us =>
            simp only [hr] at h
            injection h with h
            subst h
            obtain ⟨c, E, h1, h2, h3, h4, h5, h6⟩ := scan_ok f (a + k) (l.drop k) us (by rw [List.length_drop]; omega) hr
            rw [List.length_drop] at h3 h5 h6
            have hto := tok_ok ht a
            subst h1
            refine ⟨{ t with at_ := (a : Int) } :: c, E, rfl, h2, by omega, fun s hs => ?_, fun s hs => ?_, by simp; omega⟩
            · rw [List.cons_append] at hs
              rcases List.mem_cons.1 hs with rfl | hs
              · exact hto.1
              · exact h4 s hs
            · rcases List.mem_cons.1 hs with rfl | hs
              · exact ⟨hto.2, by simp, by simp; omega⟩
              · have := h5 s hs
                exact ⟨this.1, by omega, by omega⟩
theorem scan_err : ∀ (f a : Nat) (l : List UInt8) (p : Nat) (x : Int), l.length < f → scanP f a l = .error (p, x) → (x = 2 ∨ x = 4) ∧ a ≤ p ∧ p < a + l.length
  | 0, a, l, p, x, hf, _ => by omega
  | f + 1, a, l, p, x, hf, h => by
    rw [scanP] at h
    split at h
    · cases h
    · rename_i hl
      have hpos : 0 < l.length := List.length_pos_iff.2 hl
      split at h
      · rename_i h0
        have hle := leftP_le l
        have := scan_err f (a + leftP l) (l.drop (leftP l)) p x (by rw [List.length_drop]; omega) h
        rw [List.length_drop] at this
        exact ⟨this.1, by omega, by omega⟩
      · cases ht : tokenP l with
        | error e =>
          rw [ht] at h
          injection h with h; injection h with h1 h2
          subst h1 h2
          exact ⟨tokenP_err ht, Nat.le_refl _, by omega⟩
        | ok q =>
          obtain ⟨t, k⟩ := q
          rw [ht] at h
          have hk := tokenP_size ht
          cases hr : scanP f (a + k) (l.drop k) with
          | ok us => simp only [hr] at h; cases h
          | error e =>
            obtain ⟨p', x'⟩ := e
            simp only [hr] at h
            injection h with h; injection h with h1 h2
            subst h1 h2
            have := scan_err f (a + k) (l.drop k) p' x' (by rw [List.length_drop]; omega) hr
            rw [List.length_drop] at this
            exact ⟨this.1, by omega, by omega⟩
end Go.Proofs.YtoahaigfjfeopaaGreatDoor

/- What is read is right, and is what is printed of it. -/
namespace Go.Proofs.YtoahaigfjfeopaaGreatDoor

theorem scopeB_mono {n : Nat} {l : List Int} (h : scopeB n l = true) : scopeB (n + 1) l = true := by
  simp only [scopeB, Bool.and_eq_true, decide_eq_true_eq] at h ⊢
  exact ⟨h.1, by omega⟩
theorem inDoms_mono {doms : List (List Int)} {d : List Int} : ∀ (s t : List Int), (∀ v ∈ s, 0 ≤ v ∧ v < doms.length) → inDoms doms s t = true → inDoms (doms ++ [d]) s t = true
  | [], _, _, _ => by simp only [inDoms]
  | _ :: _, [], _, _ => by simp only [inDoms]
  | v :: s, n :: t, hs, h => by
    simp only [inDoms, Bool.and_eq_true, decide_eq_true_eq] at h ⊢
    have hv := hs v (List.mem_cons_self ..)
    have e : nth [] (doms ++ [d]) v.toNat = nth [] doms v.toNat := by
      simp only [nth, List.getD_eq_getElem?_getD]
      rw [List.getElem?_append_left (by omega)]
    rw [e]
    exact ⟨h.1, inDoms_mono s t (fun w hw => hs w (List.mem_cons_of_mem _ hw)) h.2⟩
theorem rowsB_mono {doms : List (List Int)} {d : List Int} {s : List Int} (hs : ∀ v ∈ s, 0 ≤ v ∧ v < doms.length) : ∀ (l : List (List Int)) (p : Option (List Int)), rowsB doms s p l = true → rowsB (doms ++ [d]) s p l = true
  | [], _, _ => by simp only [rowsB]
  | t :: l, p, h => by
    simp only [rowsB, Bool.and_eq_true] at h ⊢
    exact ⟨⟨h.1.1, inDoms_mono s t hs h.1.2⟩, rowsB_mono hs l _ h.2⟩
theorem hardB_mono {x : Ins} {d : List Int} {c : Con} (h : hardB x c = true) : hardB { x with doms := x.doms ++ [d] } c = true := by
  simp only [hardB, Bool.and_eq_true] at h ⊢
  obtain ⟨⟨⟨⟨hs, hk1⟩, hk6⟩, hr⟩, hb⟩ := h
  have hrg := (scope_ok hs).1.2.2
  refine ⟨⟨⟨⟨by rw [List.length_append]; exact scopeB_mono hs, hk1⟩, hk6⟩, hr⟩, ?_⟩
  by_cases h6 : c.kind = 6
  · rw [if_pos h6] at hb ⊢; exact hb
  · rw [if_neg h6] at hb ⊢
    simp only [Bool.and_eq_true] at hb ⊢
    exact ⟨hb.1, rowsB_mono hrg _ _ hb.2⟩
theorem softB_mono {x : Ins} {d : List Int} {c : Sft} (h : softB x c = true) : softB { x with doms := x.doms ++ [d] } c = true := by
  simp only [softB, Bool.and_eq_true] at h ⊢
  obtain ⟨⟨⟨⟨hs, h1⟩, h2⟩, h3⟩, hb⟩ := h
  have hrg := (scope_ok hs).1.2.2
  exact ⟨⟨⟨⟨by rw [List.length_append]; exact scopeB_mono hs, h1⟩, h2⟩, h3⟩, rowsB_mono hrg _ _ hb⟩
theorem right_mk {x : Ins} (hd : DomsOk x.doms) (h1 : x.hard.length ≤ 200) (h2 : x.soft.length ≤ 200) (h3 : ∀ c ∈ x.hard, hardB x c = true) (h4 : ∀ s ∈ x.soft, softB x s = true) : rightB x = true := by
  simp only [rightB, Bool.and_eq_true, decide_eq_true_eq, List.all_eq_true]
  exact ⟨⟨⟨⟨⟨hd.1, h1⟩, h2⟩, hd.2⟩, h3⟩, h4⟩
theorem right_add {x : Ins} {st : St} (h : rightB x = true) (ho : okSt x st) : rightB (add x st) = true := by
  obtain ⟨hd, h1, h2, h3, h4⟩ := right_parts h
  cases st with
  | dom d =>
    refine right_mk (domsOk_add (st := .dom d) hd ho) h1 h2 (fun c hc => hardB_mono (h3 c hc)) (fun c hc => softB_mono (h4 c hc))
  | hard c =>
    refine right_mk hd (by have := ho.1; simp [add]; omega) h2 (fun k hk => ?_) h4
    rcases List.mem_append.1 hk with hk | hk
    · exact h3 k hk
    · rw [List.mem_singleton.1 hk]; exact ho.2
  | soft s =>
    refine right_mk hd h1 (by have := ho.1; simp [add]; omega) h3 (fun k hk => ?_)
    rcases List.mem_append.1 hk with hk | hk
    · exact h4 k hk
    · rw [List.mem_singleton.1 hk]; exact ho.2
theorem right_fold : ∀ (sts : List St) (x : Ins), rightB x = true → okAll x sts → rightB (sts.foldl add x) = true
  | [], _, h, _ => h
  | _ :: sts, _, h, ho => right_fold sts _ (right_add h ho.1) ho.2
theorem right_nil : rightB ⟨[], [], []⟩ = true := by decide

/-! ### How many bytes are printed -/
theorem nDigits_lt : ∀ (k u : Nat), u < 10 ^ (k + 1) → Lib.nDigits u ≤ k + 1
  | 0, u, h => by rw [Lib.nDigits_small (by simpa using h)]; exact Nat.le_refl _
  | k + 1, u, h => by
    by_cases h1 : u < 10
    · rw [Lib.nDigits_small h1]; omega
    · rw [Lib.nDigits_big h1]
      have := nDigits_lt k (u / 10) (by rw [Nat.pow_succ] at h; omega)
      omega
theorem dec_len (u : Nat) (hu : u ≤ 1000000000000) : (Lib.decDigits u).length ≤ 13 := by
  rw [Lib.decDigits_length]
  exact nDigits_lt 12 u (by omega)
theorem itoa_len {n : Int} (h : Fit n) : (Lib.itoa n).length ≤ 14 := by
  have h1 := h.1
  have h2 := h.2
  unfold Lib.itoa
  split
  · have := dec_len n.natAbs (by omega)
    simp only [List.length_cons] at *
    omega
  · have := dec_len n.toNat (by omega)
    omega
theorem nums_len : ∀ (l : List Int), Fits l → (numsP l).length ≤ 15 * (l.map nT).length
  | [], _ => by simp [numsP]
  | n :: l, hf => by
    have ih := nums_len l (fun k hk => hf (k + 1) (by simp; omega))
    have h0 : (Lib.itoa n).length ≤ 14 := itoa_len (hf 0 (by simp))
    have e : numsP (n :: l) = 32 :: (Lib.itoa n ++ numsP l) := by simp [numsP]
    rw [e]
    simp only [List.length_cons, List.length_append, List.length_map] at *
    omega
theorem comma_len (i : Nat) : (commaP i).length ≤ 15 * (if 0 < i then [sT 44] else []).length := by
  unfold commaP; split <;> simp
theorem rows_len : ∀ (l : List (List Int)) (i : Nat), (∀ t ∈ l, Fits t) → (rowsP i l).length ≤ 15 * (rowsK i l).length
  | [], i, _ => by simp [rowsP]
  | t :: l, i, h => by
    have h1 := nums_len t (h t (List.mem_cons_self ..))
    have h2 := rows_len l (i + 1) (fun u hu => h u (List.mem_cons_of_mem _ hu))
    have h3 := comma_len i
    rw [rowsP, rowsK]
    simp only [List.length_append] at *
    omega
theorem Fits.one {n : Int} (h : Fit n) : Fits [n] := fun k hk => by
  have : k = 0 := by simpa using hk
  subst this; exact h
theorem Fits.tail {n : Int} {l : List Int} (h : Fits (n :: l)) : Fits l := fun k hk => h (k + 1) (by simp; omega)
theorem Fits.head {n : Int} {l : List Int} (h : Fits (n :: l)) : Fit n := h 0 (by simp)
theorem lin_len : ∀ (a v : List Int) (i : Nat), Fits a → Fits v → (linP i a v).length ≤ 15 * (linK i a v).length
  | [], _, _, _, _ => by simp [linP]
  | _ :: _, [], _, _, _ => by simp [linP]
  | a :: aa, v :: vs, i, ha, hv => by
    have h1 := nums_len [a, v] (fun k hk => by
      have : k = 0 ∨ k = 1 := by simp at hk; omega
      rcases this with rfl | rfl
      · exact ha.head
      · exact hv.head)
    have h2 := lin_len aa vs (i + 1) ha.tail hv.tail
    have h3 := comma_len i
    rw [linP, linK]
    simp only [List.length_append, List.length_cons, List.length_nil, List.length_map] at *
    omega
theorem costs_len : ∀ (l : List (List Int)) (k : List Int), (∀ t ∈ l, Fits t) → Fits k → (costsP l k).length ≤ 15 * (costsK l k).length
  | [], _, _, _ => by simp [costsP]
  | _ :: _, [], _, _ => by simp [costsP]
  | t :: l, k :: ks, h, hk => by
    have h1 := nums_len t (h t (List.mem_cons_self ..))
    have h2 := costs_len l ks (fun u hu => h u (List.mem_cons_of_mem _ hu)) hk.tail
    have h3 := nums_len [k] (Fits.one hk.head)
    rw [costsP, costsK]
    simp only [List.length_append, List.length_cons, List.length_nil, List.length_map] at *
    omega
theorem word_len (k : Int) (h1 : 1 ≤ k) (h6 : k ≤ 6) : (nth [] wordsT k.toNat).length ≤ 7 := by
  have : k = 1 ∨ k = 2 ∨ k = 3 ∨ k = 4 ∨ k = 5 ∨ k = 6 := by omega
  rcases this with rfl | rfl | rfl | rfl | rfl | rfl <;> decide
theorem how_len (k : Int) (h1 : 0 ≤ k) (h6 : k ≤ 2) : (nth [] howsT k.toNat).length ≤ 7 := by
  have : k = 0 ∨ k = 1 ∨ k = 2 := by omega
  rcases this with rfl | rfl | rfl <;> decide
theorem st_len {st : St} (hf : fitSt st) : (stP st).length ≤ 15 * (stK st).length := by
  cases st with
  | dom d =>
    have h1 := nums_len d hf
    simp only [stP, stK, domK, varT, endT, List.length_append, List.length_cons, List.length_nil] at *
    omega
  | hard c =>
    obtain ⟨k1, k6, fs, fa, fr, f6⟩ := hf
    have hw := word_len c.kind k1 k6
    by_cases hk : c.kind = 6
    · obtain ⟨g1, g2, g3⟩ := f6 hk
      have hh := how_len _ g2 g3
      have h1 := lin_len c.args c.scope 0 fa fs
      have h2 := nums_len [nth 0 c.args (c.scope.length + 1)] (Fits.one (fa _ (by omega)))
      simp only [stP, stK, hardP, hardK, if_pos hk, endT, List.length_append, List.length_cons, List.length_nil, List.length_map] at *
      omega
    · have h1 := nums_len c.scope fs
      by_cases h2 : 2 < c.kind
      · simp only [stP, stK, hardP, hardK, if_neg hk, if_pos h2, endT, List.length_append, List.length_cons, List.length_nil, List.length_map] at *
        omega
      · have h3 := rows_len c.rows 0 fr
        simp only [stP, stK, hardP, hardK, if_neg hk, if_neg h2, endT, List.length_append, List.length_cons, List.length_nil, List.length_map] at *
        omega
  | soft s =>
    obtain ⟨fs, fd, fr, fc⟩ := hf
    have h1 := nums_len s.scope fs
    have h2 := nums_len [s.dflt] (Fits.one fd)
    have h3 := costs_len s.rows s.costs fr fc
    simp only [stP, stK, softP, softK, softT, endT, List.length_append, List.length_cons, List.length_nil, List.length_map] at *
    omega
theorem sts_len : ∀ (sts : List St), (∀ st ∈ sts, fitSt st) → (sts.flatMap stP).length ≤ 15 * (sts.flatMap stK).length
  | [], _ => by simp
  | st :: sts, h => by
    have h1 := st_len (h st (List.mem_cons_self ..))
    have h2 := sts_len sts (fun s hs => h s (List.mem_cons_of_mem _ hs))
    rw [List.flatMap_cons, List.flatMap_cons, List.length_append, List.length_append]
    omega
theorem print_len {x : Ins} (h : rightB x = true) : (printP x).length ≤ 15 * ((stsOf x).flatMap stK).length := by
  rw [print_sts h]
  exact sts_len _ (fit_all _ _ domsOk_nil (ok_of h).1)
theorem toks_add (x : Ins) (st : St) : ((stsOf (add x st)).flatMap stK).length = ((stsOf x).flatMap stK).length + (stK st).length := by
  cases st <;> simp [stsOf, add] <;> omega
theorem toks_fold : ∀ (sts : List St) (x : Ins), ((stsOf (sts.foldl add x)).flatMap stK).length = ((stsOf x).flatMap stK).length + (sts.flatMap stK).length
  | [], x => by simp
  | st :: sts, x => by
    rw [List.foldl_cons, toks_fold sts, toks_add, List.flatMap_cons, List.length_append]
    omega

/-! ### What is told of a text -/
theorem parse_wrong {l : List UInt8} {p x : Int} (h : parseP l = .error (p, x)) : x ≠ 0 ∧ 0 ≤ p ∧ p ≤ l.length := by
  unfold parseP at h
  split at h
  · rename_i p' x' ha
    injection h with h; injection h with h1 h2
    subst h1 h2
    unfold allP at ha
    split at ha
    · injection ha with ha; injection ha with h1 h2
      subst h1 h2
      exact ⟨by decide, by simp, by simp⟩
    · obtain ⟨h1, h2, h3⟩ := scan_err _ _ _ _ _ (Nat.lt_succ_self _) ha
      exact ⟨by rcases h1 with rfl | rfl <;> decide, by omega, by omega⟩
  · rename_i ts ha
    unfold allP at ha
    split at ha
    · cases ha
    · obtain ⟨c, E, rfl, hE, hat, _, hc, hl⟩ := scan_ok _ _ _ _ (Nat.lt_succ_self _) ha
      have hz := loc_stmts ((c ++ [E]).length + 1) ⟨[], [], []⟩ c E hE (fun t ht => (hc t ht).1) (by simp; omega)
      rw [LocZ, h] at hz
      refine ⟨hz.1, ?_⟩
      rcases hz.2 with h2 | ⟨⟨t, ht, h2⟩, _⟩
      · omega
      · have := hc t ht; omega
theorem parse_told {l : List UInt8} {y : Ins} (h : parseP l = .ok y) : rightB y = true ∧ (printP y).length ≤ 15 * l.length := by
  unfold parseP at h
  split at h
  · cases h
  · rename_i ts ha
    unfold allP at ha
    split at ha
    · cases ha
    · obtain ⟨c, E, rfl, hE, hat, hok, hc, hl⟩ := scan_ok _ _ _ _ (Nat.lt_succ_self _) ha
      obtain ⟨sts, c2, e, r, rfl, ho, hts, he, hcs⟩ := stmtsQ_s _ _ _ _ hok (by simp) h
      have hr := right_fold sts ⟨[], [], []⟩ right_nil ho
      refine ⟨hr, ?_⟩
      have h1 := print_len hr
      rw [toks_fold, ← hcs, List.length_map] at h1
      have h2 := congrArg List.length hts
      simp only [List.length_append, List.length_cons, List.length_nil] at h2
      have h3 : ((stsOf ⟨[], [], []⟩).flatMap stK).length = 0 := rfl
      omega
/-- What is read of a text that is not long is right, and is what is printed of it. -/
theorem parse_back {l : List UInt8} {y : Ins} (hl : l.length ≤ 6000) (h : parseP l = .ok y) : rightB y = true ∧ (printP y).length ≤ 100000 ∧ parseP (printP y) = .ok y := by
  obtain ⟨h1, h2⟩ := parse_told h
  exact ⟨h1, by omega, parse_print h1 (by omega)⟩
end Go.Proofs.YtoahaigfjfeopaaGreatDoor

/- arboristref06.numbers. -/
namespace Go.Proofs.YtoahaigfjfeopaaGreatDoor
open Go.RowKit
attribute [local irreducible] wpStill wpLex Calls

theorem Fits.take {l : List Int} (h : Fits l) (k : Nat) : Fits (l.take k) := fun j hj => by
  rw [List.length_take] at hj
  have e : nth 0 (l.take k) j = nth 0 l j := by simp [nth, List.getD_eq_getElem?_getD, List.getElem?_take_of_lt (show j < k by omega)]
  rw [e]; exact h j (by omega)
theorem nums_size (l : List Int) (h : Fits l) : (numsP l).length ≤ 15 * l.length := by
  have := nums_len l h
  simpa using this
def NumRel (xs : List Int) (w : World) (g : Nat) (s i : Value) (wr : World) : Prop :=
  ∃ k : Nat, ∃ sb : ByteArray, i = .int .i64 k ∧ k ≤ xs.length ∧ s = .string sb ∧ Hid (sb = ⟨(numsP (xs.take k)).toArray⟩) ∧ sb.size ≤ 15 * k ∧ Hid (Below w.heap.size w wr) ∧ g = xs.length - k
set_option maxRecDepth 100000 in
set_option maxHeartbeats 4000000 in
theorem refnums_any (v : Value) (xs : List Int) (ok : Nat → Prop) (w : World) (h1 : Sl (Kd.int .i64) w ok v xs) (hf : Fits xs) :
    Calls Tryz.prog 40 #[v] w fun e w' => e = .returned (.string ⟨(numsP xs).toArray⟩) ∧ Below w.heap.size w w' := by
  have H1 := Lib.hid h1
  have HF := Lib.hid hf
  obtain ⟨A, c, rfl, hc, hm, _⟩ := h1
  clear hf
  go_enter Tryz.func40, Tryz.ntmps40
  go_wp2_with fail
  go_loopg [3, 4] xs.length (fun g s i wr => NumRel xs w g s i wr)
  case atStart => exact ⟨0, _, rfl, Nat.zero_le _, rfl, Lib.hid rfl, Nat.le_refl _, Lib.hid (Below.refl _ _), rfl⟩
  case round =>
    obtain ⟨k, sb, rfl, hk, rfl, hs, hz, HB, hg⟩ := hrel
    have HG := Lib.hid hg
    clear hg
    by_cases hlt : k < xs.length
    · obtain ⟨b, o, rfl, c0⟩ := H1.out.elems.num hlt
      have c1 := cell_kept HB.out c0
      have hfk := HF.out k hlt
      have HN := Lib.hid (refnum_any (nth 0 xs k) wr (by have := hfk.1; omega) (by have := hfk.2; omega))
      have hdl := itoa_len hfk
      have HQ : Hid (sb ++ ⟨#[32]⟩ ++ ⟨(Lib.itoa (nth 0 xs k)).toArray⟩ = ⟨(numsP (xs.take (k + 1))).toArray⟩) := Lib.hid (by
        rw [numsP_snoc xs k hlt, hs.out, show (⟨#[32]⟩ : ByteArray) = ⟨[32].toArray⟩ from rfl, ba_app, ba_app, List.append_assoc]; rfl)
      have hds : (⟨(Lib.itoa (nth 0 xs k)).toArray⟩ : ByteArray).size ≤ 14 := by rw [size_mk]; exact hdl
      generalize (⟨(Lib.itoa (nth 0 xs k)).toArray⟩ : ByteArray) = ds at *
      clear hfk hdl hs
      go_wp2_with (go_at_call 20; refine HN.out.mono ?_; rintro e w2 ⟨rfl, hb⟩; (have HB2 := Lib.hid (below_next HB.out hb)); clear hb HB HN)
      go_roundg (xs.length - (k + 1))
      case rel => exact ⟨k + 1, _, by go_num, by omega, rfl, HQ, by have : (ByteArray.mk #[32]).size = 1 := rfl; rw [ByteArray.size_append, ByteArray.size_append]; omega, HB2, rfl⟩
      case measure => have := HG.out; omega
    · obtain rfl : k = xs.length := by omega
      have hs2 := hs.out
      rw [List.take_of_length_le (Nat.le_refl _)] at hs2
      have HS2 := Lib.hid hs2
      clear hs hs2
      go_wp2_with fail
      go_ret
      exact ⟨ret_str HS2.out, HB.out⟩
end Go.Proofs.YtoahaigfjfeopaaGreatDoor

/- What the reference's scanner computes, beside the plain functions: what is skipped, and numbers. -/
namespace Go.Proofs.YtoahaigfjfeopaaGreatDoor

/-- How many bytes are skipped; in a note, or not. -/
def skipP : Bool → List UInt8 → Nat
  | _, [] => 0
  | b, c :: r => if c.toNat = 10 then skipP false r + 1 else if c.toNat = 35 then skipP true r + 1 else if c.toNat ≠ 32 ∧ c.toNat ≠ 9 ∧ b = false then 0 else skipP b r + 1
theorem skip_true : ∀ l : List UInt8, skipP true l = runP notEol l + skipP false (l.drop (runP notEol l))
  | [] => rfl
  | c :: r => by
    by_cases h : c.toNat = 10
    · have hr : runP notEol (c :: r) = 0 := by rw [runP, notEol]; simp [h]
      rw [hr, List.drop_zero, Nat.zero_add, skipP, skipP, if_pos h, if_pos h]
    · have hr : runP notEol (c :: r) = runP notEol r + 1 := by rw [runP, notEol]; simp [h]
      rw [hr, List.drop_succ_cons, skipP, if_neg h, skip_true r]
      by_cases h2 : c.toNat = 35
      · rw [if_pos h2]; omega
      · rw [if_neg h2, if_neg (by simp)]; omega
theorem skip_le : ∀ (l : List UInt8) (b : Bool), skipP b l ≤ l.length
  | [], _ => Nat.le_refl _
  | c :: r, b => by
    have h1 := skip_le r false
    have h2 := skip_le r true
    have h3 := skip_le r b
    rw [skipP, List.length_cons]
    split
    · omega
    · split
      · omega
      · split <;> omega
theorem skip_stop : ∀ (l : List UInt8) (b : Bool), l.drop (skipP b l) = [] ∨ leftP (l.drop (skipP b l)) = 0
  | [], _ => .inl rfl
  | c :: r, b => by
    have h1 := skip_stop r false
    have h2 := skip_stop r true
    have h3 := skip_stop r b
    rw [skipP]
    split
    · exact h1
    · split
      · exact h2
      · split
        · rename_i h10 h35 h
          right
          rw [List.drop_zero, leftP, if_neg (by omega), if_neg h35]
        · exact h3
theorem scan_skip : ∀ (n : Nat) (l : List UInt8) (at_ : Nat), l.length ≤ n → scanQ at_ l = scanQ (at_ + skipP false l) (l.drop (skipP false l))
  | n, [], at_, _ => rfl
  | 0, c :: r, at_, h => by simp at h
  | n + 1, c :: r, at_, h => by
    have hr : r.length ≤ n := by simpa using h
    have one : leftP (c :: r) = 1 → skipP false (c :: r) = skipP false r + 1 → scanQ at_ (c :: r) = scanQ (at_ + skipP false (c :: r)) ((c :: r).drop (skipP false (c :: r))) := by
      intro h1 h2
      rw [scanQ_left at_ (c :: r) (by simp) (by omega), h1, h2, List.drop_one, List.tail_cons, List.drop_succ_cons, scan_skip n r _ hr]
      congr 1; omega
    by_cases h10 : c.toNat = 10
    · exact one (by rw [leftP, if_pos (by omega)]) (by rw [skipP, if_pos h10])
    · by_cases h35 : c.toNat = 35
      · have hl : leftP (c :: r) = runP notEol r + 1 := by rw [leftP, if_neg (by omega), if_pos h35, runP, notEol]; simp [h10]
        have hs : skipP false (c :: r) = (runP notEol r + 1) + skipP false (r.drop (runP notEol r)) := by rw [skipP, if_neg h10, if_pos h35, skip_true]; omega
        have hle := runP_le notEol r
        rw [scanQ_left at_ (c :: r) (by simp) (by omega), hl, hs, List.drop_succ_cons, scan_skip n (r.drop (runP notEol r)) _ (by rw [List.length_drop]; omega), ← List.drop_drop, List.drop_succ_cons]
        congr 1; omega
      · by_cases hb : c.toNat = 32 ∨ c.toNat = 9
        · exact one (by rw [leftP, if_pos (by omega)]) (by rw [skipP, if_neg h10, if_neg h35, if_neg (by omega)])
        · have hs : skipP false (c :: r) = 0 := by rw [skipP, if_neg h10, if_neg h35, if_pos ⟨by omega, by omega, rfl⟩]
          rw [hs]; rfl
/-! ### Numbers -/
/-- The number so far, and whether it is too big; one digit more. -/
def digF (s : Nat × Bool) (c : UInt8) : Nat × Bool :=
  let n := if s.1 ≤ 1000000000000 then s.1 * 10 + (c.toNat - 48) else s.1
  (n, s.2 || decide (1000000000000 < n))
def numF (l : List UInt8) : Nat × Bool := l.foldl digF (0, false)
theorem uintM_big (M : Nat) : ∀ (l : List UInt8) (acc : Nat), (∀ c ∈ l, isDigit c = true) → 1000000000000 < acc → (∃ v, Lib.parseUintM M acc l = .ok v ∧ 1000000000000 < v) ∨ Lib.parseUintM M acc l = .range
  | [], acc, _, h => .inl ⟨acc, rfl, h⟩
  | c :: r, acc, hd, h => by
    have hc := hd c (List.mem_cons_self ..)
    simp only [isDigit, Bool.and_eq_true, decide_eq_true_eq] at hc
    rw [Lib.parseUintM, if_pos hc]
    split
    · exact .inr rfl
    · split
      · exact .inr rfl
      · exact uintM_big M r _ (fun d hd' => hd d (List.mem_cons_of_mem _ hd')) (by omega)
theorem dig_over (l : List UInt8) : ∀ n, (l.foldl digF (n, true)).2 = true := by
  induction l with
  | nil => intro n; rfl
  | cons c r ih => intro n; rw [List.foldl_cons, digF]; exact ih _
theorem numF_from (M : Nat) (hM : 10000000000010 ≤ M) : ∀ (l : List UInt8) (acc : Nat), (∀ c ∈ l, isDigit c = true) → acc ≤ 1000000000000 →
    ((l.foldl digF (acc, false)).2 = false → (l.foldl digF (acc, false)).1 ≤ 1000000000000 ∧ Lib.parseUintM M acc l = .ok (l.foldl digF (acc, false)).1) ∧
    ((l.foldl digF (acc, false)).2 = true → (∃ v, Lib.parseUintM M acc l = .ok v ∧ 1000000000000 < v) ∨ Lib.parseUintM M acc l = .range)
  | [], acc, _, h => ⟨fun _ => ⟨h, rfl⟩, fun h => by cases h⟩
  | c :: r, acc, hd, h => by
    have hc := hd c (List.mem_cons_self ..)
    simp only [isDigit, Bool.and_eq_true, decide_eq_true_eq] at hc
    have hr := fun d hd' => hd d (List.mem_cons_of_mem c hd')
    have e : digF (acc, false) c = (acc * 10 + (c.toNat - 48), decide (1000000000000 < acc * 10 + (c.toNat - 48))) := by
      unfold digF; simp only [if_pos h, Bool.false_or]
    rw [List.foldl_cons, e, Lib.parseUintM, if_pos hc, if_neg (by omega), if_neg (by omega)]
    by_cases hb : 1000000000000 < acc * 10 + (c.toNat - 48)
    · rw [decide_eq_true hb]
      refine ⟨fun h2 => (by rw [dig_over] at h2; cases h2), fun _ => uintM_big M r _ hr hb⟩
    · rw [decide_eq_false hb]
      exact numF_from M hM r _ hr (by omega)
/-- numP, told as the reference counts. -/
theorem numP_ref (l : List UInt8) (m : Nat) (ds : List UInt8) (hm : m = if l.head? = some 45 then 1 else 0) (hds : ds = (l.drop m).take (runP isDigit (l.drop m))) :
    numP l = if ds = [] ∨ ds.head? = some 48 ∧ 1 < ds.length + m then .error 2 else if (numF ds).2 = true then .error 4 else .ok (if m = 1 then -((numF ds).1 : Int) else (numF ds).1, m + ds.length) := by
  have hdig : ∀ c ∈ ds, isDigit c = true := by rw [hds]; exact run_mem isDigit _
  unfold numP
  dsimp only
  rw [← hm, ← hds]
  by_cases hc : ds = [] ∨ ds.head? = some 48 ∧ 1 < ds.length + m
  · rw [if_pos hc, if_pos hc]
  · rw [if_neg hc, if_neg hc]
    have hne : ds ≠ [] := fun h => hc (.inl h)
    have hF := numF_from (2 ^ 64 - 1) (by decide) ds 0 hdig (by omega)
    rw [show ds.foldl digF (0, false) = numF ds from rfl] at hF
    have hu : Lib.parseUintB 64 ds = Lib.parseUintM (2 ^ 64 - 1) 0 ds := by rw [Lib.parseUintB, if_neg hne]
    have hpre : ds = (l.drop m).take ds.length := by
      rw [hds, List.length_take]
      simp
    by_cases h45 : l.head? = some 45
    · rw [if_pos h45] at hm
      obtain ⟨r, rfl⟩ : ∃ r, l = 45 :: r := by
        cases l with
        | nil => cases h45
        | cons c r => injection h45 with h; exact ⟨r, by rw [h]⟩
      have ht : (45 :: r).take (m + ds.length) = 45 :: ds := by
        rw [hm, Nat.add_comm, List.take_succ_cons]
        rw [hm, List.drop_one, List.tail_cons] at hpre
        rw [← hpre]
      rw [ht, Lib.parseIntB_minus, hu, if_pos hm]
      cases ho : (numF ds).2 with
      | false =>
        obtain ⟨h1, h2⟩ := hF.1 ho
        rw [h2, if_neg (by simp)]
        simp only [Lib.signedC]
        rw [if_neg (by omega)]
        simp only
        rw [if_neg (by omega)]
      | true =>
        rw [if_pos rfl]
        rcases hF.2 ho with ⟨v, h2, hv⟩ | h2
        · rw [h2]
          simp only [Lib.signedC]
          by_cases hb : 2 ^ (64 - 1) < v
          · rw [if_pos hb]
          · rw [if_neg hb]
            simp only
            rw [if_pos (by omega)]
        · rw [h2]; rfl
    · rw [if_neg h45] at hm
      subst hm
      rw [List.drop_zero] at hpre
      rw [Nat.zero_add, ← hpre]
      cases hds2 : ds with
      | nil => exact absurd hds2 hne
      | cons c q =>
        have hcd := hdig c (by rw [hds2]; exact List.mem_cons_self ..)
        simp only [isDigit, Bool.and_eq_true, decide_eq_true_eq] at hcd
        rw [Lib.parseIntB_plain 64 c q (by omega) (by omega), ← hds2, hu, if_neg (show ¬ (0 : Nat) = 1 by omega)]
        cases ho : (numF ds).2 with
        | false =>
          obtain ⟨h1, h2⟩ := hF.1 ho
          rw [h2, if_neg (by simp)]
          simp only [Lib.signlessC]
          rw [if_neg (by omega)]
          simp only
          rw [if_neg (by omega)]
        | true =>
          rw [if_pos rfl]
          rcases hF.2 ho with ⟨v, h2, hv⟩ | h2
          · rw [h2]
            simp only [Lib.signlessC]
            by_cases hb : 2 ^ (64 - 1) ≤ v
            · rw [if_pos hb]
            · rw [if_neg hb]
              simp only
              rw [if_pos (by omega)]
          · rw [h2]; rfl
end Go.Proofs.YtoahaigfjfeopaaGreatDoor

/- arboristref05.letter, digit, skip. -/
namespace Go.Proofs.YtoahaigfjfeopaaGreatDoor
open Go.RowKit
attribute [local irreducible] wpStill wpLex Calls

theorem refletter_any (l : List UInt8) (k : Nat) (w : World) (hk : k ≤ l.length) : Calls Tryz.prog 77 #[.string ⟨l.toArray⟩, .int .i64 k] w fun e w' => e = .returned (.bool (decide (k < l.length) && isLetter (nth 0 l k))) ∧ w' = w := by
  by_cases hlt : k < l.length
  · have hb := byte_nth l k hlt
    have hd : decide ((k : Int) < l.length) = true := decide_eq_true (by omega)
    generalize hc : nth 0 l k = c at *
    have hcu := c.toNat_lt
    clear hc
    by_cases h1 : 97 ≤ c.toNat
    · have hd1 : decide ((97 : Int) ≤ c.toNat) = true := decide_eq_true (by omega)
      by_cases h2 : c.toNat ≤ 122
      · have hd2 : decide ((c.toNat : Int) ≤ 122) = true := decide_eq_true (by omega)
        have HR : Hid ((decide (k < l.length) && isLetter c) = true) := Lib.hid (by simp [hlt, isLetter, h1, h2])
        clear h1 h2
        go_enter Tryz.func77, Tryz.ntmps77
        go_wp2
        go_ret
        exact ⟨ret_bool HR.out.symm, rfl⟩
      · have hd2 : decide ((c.toNat : Int) ≤ 122) = false := decide_eq_false (by omega)
        have HR : Hid ((decide (k < l.length) && isLetter c) = false) := Lib.hid (by simp [hlt, isLetter, h1, h2])
        clear h1 h2
        go_enter Tryz.func77, Tryz.ntmps77
        go_wp2
        go_ret
        exact ⟨ret_bool HR.out.symm, rfl⟩
    · have hd1 : decide ((97 : Int) ≤ c.toNat) = false := decide_eq_false (by omega)
      have HR : Hid ((decide (k < l.length) && isLetter c) = false) := Lib.hid (by simp [hlt, isLetter, h1])
      clear h1
      go_enter Tryz.func77, Tryz.ntmps77
      go_wp2
      go_ret
      exact ⟨ret_bool HR.out.symm, rfl⟩
  · have hd : decide ((k : Int) < l.length) = false := decide_eq_false (by omega)
    have HR : Hid ((decide (k < l.length) && isLetter (nth 0 l k)) = false) := Lib.hid (by simp [hlt])
    go_enter Tryz.func77, Tryz.ntmps77
    go_wp2
    go_ret
    exact ⟨ret_bool HR.out.symm, rfl⟩
theorem refdigit_any (l : List UInt8) (k : Nat) (w : World) (hk : k ≤ l.length) : Calls Tryz.prog 78 #[.string ⟨l.toArray⟩, .int .i64 k] w fun e w' => e = .returned (.bool (decide (k < l.length) && isDigit (nth 0 l k))) ∧ w' = w := by
  by_cases hlt : k < l.length
  · have hb := byte_nth l k hlt
    have hd : decide ((k : Int) < l.length) = true := decide_eq_true (by omega)
    generalize hc : nth 0 l k = c at *
    have hcu := c.toNat_lt
    clear hc
    by_cases h1 : 48 ≤ c.toNat
    · have hd1 : decide ((48 : Int) ≤ c.toNat) = true := decide_eq_true (by omega)
      by_cases h2 : c.toNat ≤ 57
      · have hd2 : decide ((c.toNat : Int) ≤ 57) = true := decide_eq_true (by omega)
        have HR : Hid ((decide (k < l.length) && isDigit c) = true) := Lib.hid (by simp [hlt, isDigit, h1, h2])
        clear h1 h2
        go_enter Tryz.func78, Tryz.ntmps78
        go_wp2
        go_ret
        exact ⟨ret_bool HR.out.symm, rfl⟩
      · have hd2 : decide ((c.toNat : Int) ≤ 57) = false := decide_eq_false (by omega)
        have HR : Hid ((decide (k < l.length) && isDigit c) = false) := Lib.hid (by simp [hlt, isDigit, h1, h2])
        clear h1 h2
        go_enter Tryz.func78, Tryz.ntmps78
        go_wp2
        go_ret
        exact ⟨ret_bool HR.out.symm, rfl⟩
    · have hd1 : decide ((48 : Int) ≤ c.toNat) = false := decide_eq_false (by omega)
      have HR : Hid ((decide (k < l.length) && isDigit c) = false) := Lib.hid (by simp [hlt, isDigit, h1])
      clear h1
      go_enter Tryz.func78, Tryz.ntmps78
      go_wp2
      go_ret
      exact ⟨ret_bool HR.out.symm, rfl⟩
  · have hd : decide ((k : Int) < l.length) = false := decide_eq_false (by omega)
    have HR : Hid ((decide (k < l.length) && isDigit (nth 0 l k)) = false) := Lib.hid (by simp [hlt])
    go_enter Tryz.func78, Tryz.ntmps78
    go_wp2
    go_ret
    exact ⟨ret_bool HR.out.symm, rfl⟩
theorem skip_step (l : List UInt8) (b : Bool) (k : Nat) (h : k < l.length) : skipP b (l.drop k) = if (nth 0 l k).toNat = 10 then skipP false (l.drop (k + 1)) + 1 else if (nth 0 l k).toNat = 35 then skipP true (l.drop (k + 1)) + 1 else if (nth 0 l k).toNat ≠ 32 ∧ (nth 0 l k).toNat ≠ 9 ∧ b = false then 0 else skipP b (l.drop (k + 1)) + 1 := by
  rw [drop_cons l 0 k h, skipP]
def SkipRel (l : List UInt8) (q : Nat) (w : World) (g : Nat) (i b : Value) (wr : World) : Prop :=
  ∃ (k : Nat) (n : Bool), i = .int .i64 k ∧ k ≤ l.length ∧ b = .bool n ∧ Hid (q + skipP false (l.drop q) = k + skipP n (l.drop k)) ∧ wr = w ∧ g = l.length - k
set_option maxRecDepth 100000 in
set_option maxHeartbeats 2000000 in
theorem refskip_any (l : List UInt8) (q : Nat) (w : World) (hl : l.length ≤ 140737488355328) (hq : q ≤ l.length) : Calls Tryz.prog 76 #[.string ⟨l.toArray⟩, .int .i64 q] w fun e w' => e = .returned (.int .i64 (q + skipP false (l.drop q) : Nat)) ∧ w' = w := by
  go_enter Tryz.func76, Tryz.ntmps76
  go_wp2
  go_loopg [1, 5] (l.length - q) (fun g i b wr => SkipRel l q w g i b wr)
  case atStart => exact ⟨q, false, rfl, hq, rfl, Lib.hid rfl, rfl, rfl⟩
  case round =>
    obtain ⟨k, n, rfl, hk, rfl, H, rfl, hg⟩ := hrel
    have HG := Lib.hid hg
    clear hg
    by_cases hlt : k < l.length
    · have hb := byte_nth l k hlt
      have hst := skip_step l n k hlt
      generalize nth 0 l k = c at *
      by_cases h10 : c.toNat = 10
      · have HS := Lib.hid (by rw [if_pos h10] at hst; exact hst)
        have hd : ((c.toNat : Int) == 10) = true := by simp; omega
        clear hst h10
        go_wp2
        go_roundg (l.length - (k + 1))
        case rel => exact ⟨k + 1, false, by go_num, by omega, rfl, Lib.hid (by rw [H.out, HS.out]; omega), rfl, rfl⟩
        case measure => have := HG.out; omega
      · have hd : ((c.toNat : Int) == 10) = false := by simp; omega
        rw [if_neg h10] at hst
        clear h10
        by_cases h35 : c.toNat = 35
        · have HS := Lib.hid (by rw [if_pos h35] at hst; exact hst)
          have hd2 : ((c.toNat : Int) == 35) = true := by simp; omega
          clear hst h35
          go_wp2
          go_roundg (l.length - (k + 1))
          case rel => exact ⟨k + 1, true, by go_num, by omega, rfl, Lib.hid (by rw [H.out, HS.out]; omega), rfl, rfl⟩
          case measure => have := HG.out; omega
        · have hd2 : ((c.toNat : Int) == 35) = false := by simp; omega
          rw [if_neg h35] at hst
          clear h35
          by_cases h32 : c.toNat = 32
          · have HS := Lib.hid (by rw [if_neg (by omega)] at hst; exact hst)
            have hd3 : ((c.toNat : Int) != 32) = false := by simp; omega
            clear hst h32
            go_wp2
            go_roundg (l.length - (k + 1))
            case rel => exact ⟨k + 1, n, by go_num, by omega, rfl, Lib.hid (by rw [H.out, HS.out]; omega), rfl, rfl⟩
            case measure => have := HG.out; omega
          · have hd3 : ((c.toNat : Int) != 32) = true := by simp; omega
            by_cases h9 : c.toNat = 9
            · have HS := Lib.hid (by rw [if_neg (by omega)] at hst; exact hst)
              have hd4 : ((c.toNat : Int) != 9) = false := by simp; omega
              clear hst h32 h9
              go_wp2
              go_roundg (l.length - (k + 1))
              case rel => exact ⟨k + 1, n, by go_num, by omega, rfl, Lib.hid (by rw [H.out, HS.out]; omega), rfl, rfl⟩
              case measure => have := HG.out; omega
            · have hd4 : ((c.toNat : Int) != 9) = true := by simp; omega
              cases n with
              | true =>
                have HS := Lib.hid (by rw [if_neg (by simp)] at hst; exact hst)
                clear hst h32 h9
                go_wp2
                go_roundg (l.length - (k + 1))
                case rel => exact ⟨k + 1, true, by go_num, by omega, rfl, Lib.hid (by rw [H.out, HS.out]; omega), rfl, rfl⟩
                case measure => have := HG.out; omega
              | false =>
                have HE : Hid (q + skipP false (l.drop q) = k) := Lib.hid (by rw [H.out, hst, if_pos ⟨h32, h9, rfl⟩, Nat.add_zero])
                clear H hst h32 h9
                go_wp2
                go_ret
                exact ⟨ret_int (by rw [HE.out]), rfl⟩
    · have HE : Hid (q + skipP false (l.drop q) = k) := Lib.hid (by rw [H.out, List.drop_eq_nil_of_le (by omega)]; simp [skipP])
      obtain rfl : k = l.length := by omega
      clear H
      go_wp2
      go_ret
      exact ⟨ret_int (by rw [HE.out]), rfl⟩
end Go.Proofs.YtoahaigfjfeopaaGreatDoor

/- arboristref05.number. -/
namespace Go.Proofs.YtoahaigfjfeopaaGreatDoor
open Go.RowKit

theorem run_lt (p : UInt8 → Bool) : ∀ (l : List UInt8) (j : Nat), j < runP p l → j < l.length ∧ p (nth 0 l j) = true
  | [], j, h => by simp [runP] at h
  | c :: r, j, h => by
    rw [runP] at h
    by_cases hc : p c = true
    · rw [if_pos hc] at h
      cases j with
      | zero => exact ⟨by simp, hc⟩
      | succ j =>
        have := run_lt p r j (by omega)
        exact ⟨by simpa using this.1, this.2⟩
    · rw [if_neg hc] at h; omega
theorem run_end (p : UInt8 → Bool) : ∀ (l : List UInt8), (decide (runP p l < l.length) && p (nth 0 l (runP p l))) = false
  | [] => rfl
  | c :: r => by
    rw [runP]
    by_cases hc : p c = true
    · rw [if_pos hc]
      have := run_end p r
      simpa [nth] using this
    · rw [if_neg hc]
      simp [nth, hc]
theorem nth_drop (l : List UInt8) (f j : Nat) : nth 0 (l.drop f) j = nth 0 l (f + j) := by
  simp [nth, List.getD_eq_getElem?_getD, List.getElem?_drop]
theorem dig_lt (l : List UInt8) (f j : Nat) (h : j < runP isDigit (l.drop f)) : f + j < l.length ∧ isDigit (nth 0 l (f + j)) = true := by
  have := run_lt isDigit (l.drop f) j h
  rw [List.length_drop, nth_drop] at this
  exact ⟨by omega, this.2⟩
theorem dig_end (l : List UInt8) (f : Nat) : (decide (f + runP isDigit (l.drop f) < l.length) && isDigit (nth 0 l (f + runP isDigit (l.drop f)))) = false := by
  have := run_end isDigit (l.drop f)
  rw [List.length_drop, nth_drop] at this
  rw [← this]
  congr 1
  rw [decide_eq_decide]
  omega
theorem numF_step (rest : List UInt8) (k j : Nat) (hj : j < k) (hk : k ≤ rest.length) : numF ((rest.take k).take (j + 1)) = digF (numF ((rest.take k).take j)) (nth 0 rest j) := by
  have e : (rest.take k).take (j + 1) = (rest.take k).take j ++ [nth 0 rest j] := by
    rw [List.take_take, List.take_take, Nat.min_eq_left (by omega), Nat.min_eq_left (by omega), take_snoc 0 rest j (by omega)]
  unfold numF
  rw [e, List.foldl_append]; rfl
def NumRet (q : Nat) (r : Except Int (Int × Nat)) (e : Ending) : Prop :=
  match r with
  | .ok (n, k) => e = .returned (.tuple #[.int .i64 n, .int .i64 (q + k : Nat), .int .i64 0])
  | .error x => ∃ p : Int, e = .returned (.tuple #[.int .i64 0, .int .i64 p, .int .i64 x])
def NumLoop (ds : List UInt8) (F : Int) (run : Nat) (w : World) (g : Nat) (i n o : Value) (wr : World) : Prop :=
  ∃ (j v : Nat) (b : Bool), i = .int .i64 (F + j) ∧ n = .int .i64 v ∧ o = .bool b ∧ j ≤ run ∧ Hid (numF (ds.take j) = (v, b)) ∧ v ≤ 10000000000010 ∧ wr = w ∧ g = run - j
set_option maxRecDepth 100000 in
set_option maxHeartbeats 4000000 in
theorem refnumber_any (l : List UInt8) (q : Nat) (w : World) (hl : l.length ≤ 140737488355328) (hq : q < l.length) : Calls Tryz.prog 79 #[.string ⟨l.toArray⟩, .int .i64 q] w fun e w' =>
    NumRet q (numP (l.drop q)) e ∧ w' = w := by
  have hb := byte_nth l q hq
  have hcu := (nth 0 l q).toNat_lt
  have hh : (l.drop q).head? = some (nth 0 l q) := by rw [drop_cons l 0 q hq]; rfl
  have hnp := numP_ref (l.drop q) _ _ rfl rfl
  rw [hh] at hnp
  generalize nth 0 l q = c at *
  by_cases hm : c = 45
  · rw [hm, if_pos rfl, List.drop_drop] at hnp
    have hd : ((c.toNat : Int) == 45) = true := by rw [hm]; rfl
    have HN := Lib.hid hnp
    have hrl := runP_le isDigit (l.drop (q + 1))
    rw [List.length_drop] at hrl
    have hfl : q + 1 ≤ l.length := by omega
    have HDL := Lib.hid (dig_lt l (q + 1))
    have hde := dig_end l (q + 1)
    generalize hrun : runP isDigit (l.drop (q + 1)) = run at *
    have HDE := Lib.hid hde
    have hdl : ((l.drop (q + 1)).take run).length = run := by rw [List.length_take, List.length_drop]; omega
    have HST := Lib.hid fun j (hj : j < run) => numF_step (l.drop (q + 1)) run j hj (by rw [List.length_drop]; omega)
    generalize hds : (l.drop (q + 1)).take run = ds at *
    have HDS := Lib.hid hds
    have HDLEN := Lib.hid hdl
    clear hm hh hnp hcu hrun hde hds hdl
    go_enter Tryz.func79, Tryz.ntmps79
    go_wp2
    go_loopg [7, 10, 11] run (fun g i n o wr => NumLoop ds ((q : Int) + 1) run w g i n o wr)
    case atStart => exact ⟨0, 0, false, by go_num, rfl, rfl, Nat.zero_le _, Lib.hid rfl, by omega, rfl, rfl⟩
    case round =>
      obtain ⟨j, v, b, rfl, rfl, rfl, hj, HF, hv, rfl, hg⟩ := hrel
      have HG := Lib.hid hg
      clear hg
      have hdg := refdigit_any l (q + 1 + j) wr (by omega)
      rw [show ((q + 1 + j : Nat) : Int) = (q : Int) + 1 + j by omega] at hdg
      by_cases hlt : j < run
      · obtain ⟨hlen, his⟩ := HDL.out j hlt
        have hb2 := byte_nth l (q + 1 + j) hlen
        have hst := HST.out j hlt
        rw [nth_drop, HF.out] at hst
        rw [decide_eq_true hlen, his] at hdg
        have HDG := Lib.hid hdg
        have hix : ((q : Int) + 1 + (j : Int)) < l.length := by omega
        have hix0 : 0 ≤ (q : Int) + 1 + (j : Int) := by omega
        have hixn : ((q : Int) + 1 + (j : Int)).toNat = q + 1 + j := by omega
        generalize nth 0 l (q + 1 + j) = c2 at *
        simp only [isDigit, Bool.and_eq_true, decide_eq_true_eq] at his
        obtain ⟨hc0, hc9⟩ := his
        have hw8 : IntKind.u8.wrap ((c2.toNat : Int) - 48) = ((c2.toNat - 48 : Nat) : Int) := by rw [show (c2.toNat : Int) - 48 = ((c2.toNat - 48 : Nat) : Int) by omega]; exact IntWalk.u8_in _ (by omega)
        have hd9 : c2.toNat - 48 ≤ 9 := by omega
        have hst2 : numF (ds.take (j + 1)) = ((if v ≤ 1000000000000 then v * 10 + (c2.toNat - 48) else v), b || decide (1000000000000 < (if v ≤ 1000000000000 then v * 10 + (c2.toNat - 48) else v))) := hst
        generalize hdd : c2.toNat - 48 = d at *
        clear hst
        by_cases hv1 : v ≤ 1000000000000
        · rw [if_pos hv1] at hst2
          by_cases hv2 : 1000000000000 < v * 10 + d
          · have hd1 : decide ((1000000000000 : Int) < (v : Int) * 10 + d) = true := decide_eq_true (by omega)
            rw [decide_eq_true hv2, Bool.or_true] at hst2
            have HS2 := Lib.hid hst2
            clear hst2 hdg hlen HF hdd hc0 hc9
            cases b
            · go_wp2_with (go_at_call 78; refine HDG.out.mono ?_; rintro e w' ⟨rfl, rfl⟩)
              go_roundg (run - (j + 1))
              case rel => exact ⟨j + 1, v * 10 + d, _, by go_num, by go_num, rfl, by omega, HS2, by omega, rfl, rfl⟩
              case measure => have := HG.out; omega
            · go_wp2_with (go_at_call 78; refine HDG.out.mono ?_; rintro e w' ⟨rfl, rfl⟩)
              go_roundg (run - (j + 1))
              case rel => exact ⟨j + 1, v * 10 + d, _, by go_num, by go_num, rfl, by omega, HS2, by omega, rfl, rfl⟩
              case measure => have := HG.out; omega
          · have hd1 : decide ((1000000000000 : Int) < (v : Int) * 10 + d) = false := decide_eq_false (by omega)
            rw [decide_eq_false hv2, Bool.or_false] at hst2
            have HS2 := Lib.hid hst2
            clear hst2 hdg hlen HF hdd hc0 hc9
            cases b
            · go_wp2_with (go_at_call 78; refine HDG.out.mono ?_; rintro e w' ⟨rfl, rfl⟩)
              go_roundg (run - (j + 1))
              case rel => exact ⟨j + 1, v * 10 + d, _, by go_num, by go_num, rfl, by omega, HS2, by omega, rfl, rfl⟩
              case measure => have := HG.out; omega
            · go_wp2_with (go_at_call 78; refine HDG.out.mono ?_; rintro e w' ⟨rfl, rfl⟩)
              go_roundg (run - (j + 1))
              case rel => exact ⟨j + 1, v * 10 + d, _, by go_num, by go_num, rfl, by omega, HS2, by omega, rfl, rfl⟩
              case measure => have := HG.out; omega
        · rw [if_neg hv1, decide_eq_true (show 1000000000000 < v by omega), Bool.or_true] at hst2
          have hd1 : decide ((1000000000000 : Int) < (v : Int)) = true := decide_eq_true (by omega)
          have HS2 := Lib.hid hst2
          clear hst2 hdg hlen HF hdd hc0 hc9
          cases b
          · go_wp2_with (go_at_call 78; refine HDG.out.mono ?_; rintro e w' ⟨rfl, rfl⟩)
            go_roundg (run - (j + 1))
            case rel => exact ⟨j + 1, v, _, by go_num, by go_num, rfl, by omega, HS2, by omega, rfl, rfl⟩
            case measure => have := HG.out; omega
          · go_wp2_with (go_at_call 78; refine HDG.out.mono ?_; rintro e w' ⟨rfl, rfl⟩)
            go_roundg (run - (j + 1))
            case rel => exact ⟨j + 1, v, _, by go_num, by go_num, rfl, by omega, HS2, by omega, rfl, rfl⟩
            case measure => have := HG.out; omega
      · obtain rfl : j = run := by omega
        rw [HDE.out] at hdg
        have HDG := Lib.hid hdg
        have hft : ds.take j = ds := List.take_of_length_le (by rw [HDLEN.out]; exact Nat.le_refl _)
        rw [hft] at HF
        rw [HF.out] at HN
        have HHD : Hid (0 < j → q + 1 < l.length ∧ ds.head? = some (nth 0 l (q + 1))) := Lib.hid fun h0 => by
          have hlt' : q + 1 < l.length := by have := (HDL.out 0 h0).1; omega
          refine ⟨hlt', ?_⟩
          rw [← HDS.out, drop_cons l 0 (q + 1) hlt']
          cases j with
          | zero => omega
          | succ j => rfl
        clear hdg hlt hj HG hft HF hb
        by_cases h0 : j = 0
        · have hd0 : (((q : Int) + 1 + (j : Int)) == (q : Int) + 1) = true := by simp; omega
          have HNE : Hid (numP (l.drop q) = .error 2) := Lib.hid (by rw [HN.out, if_pos (.inl (List.eq_nil_of_length_eq_zero (by rw [HDLEN.out, h0])))])
          clear h0
          go_wp2_with (go_at_call 78; refine HDG.out.mono ?_; rintro e w' ⟨rfl, rfl⟩)
          go_ret3
          rw [HNE.out]
          exact ⟨⟨_, rfl⟩, rfl⟩
        · obtain ⟨hf0, hhd⟩ := HHD.out (by omega)
          have hb3 := byte_nth l (q + 1) hf0
          have hd0 : (((q : Int) + 1 + (j : Int)) == (q : Int) + 1) = false := by simp; omega
          have hfi : ((q : Int) + 1 : Int) < l.length := by omega
          have hfn : ((q : Int) + 1 : Int).toNat = q + 1 := by omega
          generalize nth 0 l (q + 1) = c3 at *
          have HN0 : Hid (ds ≠ []) := Lib.hid (by intro h; rw [h] at hhd; cases hhd)
          have HHE := Lib.hid hhd
          clear hhd
          by_cases h48 : c3 = 48
          · have hd1 : ((c3.toNat : Int) == 48) = true := by rw [h48]; rfl
            by_cases h1 : 1 < j
            · have hd2 : decide ((1 : Int) < (j : Int)) = true := decide_eq_true (by omega)
              have HNE : Hid (numP (l.drop q) = .error 2) := Lib.hid (by rw [HN.out, if_pos (.inr ⟨by rw [HHE.out, h48], by rw [HDLEN.out]; omega⟩)])
              clear h0 h48 h1
              go_wp2_with (go_at_call 78; refine HDG.out.mono ?_; rintro e w' ⟨rfl, rfl⟩)
              go_ret3
              rw [HNE.out]
              exact ⟨⟨_, rfl⟩, rfl⟩
            · have hd2 : decide ((1 : Int) < (j : Int)) = false := decide_eq_false (by omega)
              have HNE : Hid (numP (l.drop q) = .error 2) := Lib.hid (by rw [HN.out, if_pos (.inr ⟨by rw [HHE.out, h48], by rw [HDLEN.out]; omega⟩)])
              clear h0 h48 h1
              go_wp2_with (go_at_call 78; refine HDG.out.mono ?_; rintro e w' ⟨rfl, rfl⟩)
              go_ret3
              rw [HNE.out]
              exact ⟨⟨_, rfl⟩, rfl⟩
          · have hd1 : ((c3.toNat : Int) == 48) = false := by
              have : c3.toNat ≠ 48 := fun h => h48 (by apply UInt8.toNat_inj.1; rw [h]; rfl)
              simp; omega
            have HNK : Hid (¬ (ds = [] ∨ ds.head? = some 48 ∧ 1 < ds.length + 1)) := Lib.hid (by rintro (h | ⟨h, _⟩); exact HN0.out h; rw [HHE.out] at h; injection h with h; exact h48 h)
            clear h0 h48
            have HNG : Hid (numP (l.drop q) = if b = true then .error 4 else .ok (-(v : Int), 1 + ds.length)) := Lib.hid (by rw [HN.out, if_neg HNK.out]; rfl)
            cases b with
            | true =>
              have HNE : Hid (numP (l.drop q) = .error 4) := HNG
              go_wp2_with (go_at_call 78; refine HDG.out.mono ?_; rintro e w' ⟨rfl, rfl⟩)
              go_ret3
              rw [HNE.out]
              exact ⟨⟨_, rfl⟩, rfl⟩
            | false =>
              have HNE : Hid (numP (l.drop q) = .ok (-(v : Int), 1 + ds.length)) := HNG
              go_wp2_with (go_at_call 78; refine HDG.out.mono ?_; rintro e w' ⟨rfl, rfl⟩)
              go_ret3
              rw [HNE.out]
              refine ⟨?_, rfl⟩
              have e1 : ((q + (1 + ds.length) : Nat) : Int) = (q : Int) + 1 + j := by have := HDLEN.out; omega
              show _ = Ending.returned (.tuple #[.int .i64 (-(v : Int)), .int .i64 ((q + (1 + ds.length) : Nat) : Int), .int .i64 0])
              rw [e1]
              rfl
  · have hm' : ¬ (some c = some 45) := fun h => hm (Option.some.inj h)
    rw [if_neg hm', List.drop_zero] at hnp
    have hd : ((c.toNat : Int) == 45) = false := by
      have : c.toNat ≠ 45 := fun h => hm (by apply UInt8.toNat_inj.1; rw [h]; rfl)
      simp; omega
    clear hm'
    have HN := Lib.hid hnp
    have hrl := runP_le isDigit (l.drop (q))
    rw [List.length_drop] at hrl
    have hfl : q ≤ l.length := by omega
    have HDL := Lib.hid (dig_lt l (q))
    have hde := dig_end l (q)
    generalize hrun : runP isDigit (l.drop (q)) = run at *
    have HDE := Lib.hid hde
    have hdl : ((l.drop (q)).take run).length = run := by rw [List.length_take, List.length_drop]; omega
    have HST := Lib.hid fun j (hj : j < run) => numF_step (l.drop (q)) run j hj (by rw [List.length_drop]; omega)
    generalize hds : (l.drop (q)).take run = ds at *
    have HDS := Lib.hid hds
    have HDLEN := Lib.hid hdl
    clear hm hh hnp hcu hrun hde hds hdl
    go_enter Tryz.func79, Tryz.ntmps79
    go_wp2
    go_loopg [7, 10, 11] run (fun g i n o wr => NumLoop ds ((q : Int)) run w g i n o wr)
    case atStart => exact ⟨0, 0, false, by go_num, rfl, rfl, Nat.zero_le _, Lib.hid rfl, by omega, rfl, rfl⟩
    case round =>
      obtain ⟨j, v, b, rfl, rfl, rfl, hj, HF, hv, rfl, hg⟩ := hrel
      have HG := Lib.hid hg
      clear hg
      have hdg := refdigit_any l (q + j) wr (by omega)
      rw [show ((q + j : Nat) : Int) = (q : Int) + j by omega] at hdg
      by_cases hlt : j < run
      · obtain ⟨hlen, his⟩ := HDL.out j hlt
        have hb2 := byte_nth l (q + j) hlen
        have hst := HST.out j hlt
        rw [nth_drop, HF.out] at hst
        rw [decide_eq_true hlen, his] at hdg
        have HDG := Lib.hid hdg
        have hix : ((q : Int) + (j : Int)) < l.length := by omega
        have hix0 : 0 ≤ (q : Int) + (j : Int) := by omega
        have hixn : ((q : Int) + (j : Int)).toNat = q + j := by omega
        generalize nth 0 l (q + j) = c2 at *
        simp only [isDigit, Bool.and_eq_true, decide_eq_true_eq] at his
        obtain ⟨hc0, hc9⟩ := his
        have hw8 : IntKind.u8.wrap ((c2.toNat : Int) - 48) = ((c2.toNat - 48 : Nat) : Int) := by rw [show (c2.toNat : Int) - 48 = ((c2.toNat - 48 : Nat) : Int) by omega]; exact IntWalk.u8_in _ (by omega)
        have hd9 : c2.toNat - 48 ≤ 9 := by omega
        have hst2 : numF (ds.take (j + 1)) = ((if v ≤ 1000000000000 then v * 10 + (c2.toNat - 48) else v), b || decide (1000000000000 < (if v ≤ 1000000000000 then v * 10 + (c2.toNat - 48) else v))) := hst
        generalize hdd : c2.toNat - 48 = d at *
        clear hst
        by_cases hv1 : v ≤ 1000000000000
        · rw [if_pos hv1] at hst2
          by_cases hv2 : 1000000000000 < v * 10 + d
          · have hd1 : decide ((1000000000000 : Int) < (v : Int) * 10 + d) = true := decide_eq_true (by omega)
            rw [decide_eq_true hv2, Bool.or_true] at hst2
            have HS2 := Lib.hid hst2
            clear hst2 hdg hlen HF hdd hc0 hc9
            cases b
            · go_wp2_with (go_at_call 78; refine HDG.out.mono ?_; rintro e w' ⟨rfl, rfl⟩)
              go_roundg (run - (j + 1))
              case rel => exact ⟨j + 1, v * 10 + d, _, by go_num, by go_num, rfl, by omega, HS2, by omega, rfl, rfl⟩
              case measure => have := HG.out; omega
            · go_wp2_with (go_at_call 78; refine HDG.out.mono ?_; rintro e w' ⟨rfl, rfl⟩)
              go_roundg (run - (j + 1))
              case rel => exact ⟨j + 1, v * 10 + d, _, by go_num, by go_num, rfl, by omega, HS2, by omega, rfl, rfl⟩
              case measure => have := HG.out; omega
          · have hd1 : decide ((1000000000000 : Int) < (v : Int) * 10 + d) = false := decide_eq_false (by omega)
            rw [decide_eq_false hv2, Bool.or_false] at hst2
            have HS2 := Lib.hid hst2
            clear hst2 hdg hlen HF hdd hc0 hc9
            cases b
            · go_wp2_with (go_at_call 78; refine HDG.out.mono ?_; rintro e w' ⟨rfl, rfl⟩)
              go_roundg (run - (j + 1))
              case rel => exact ⟨j + 1, v * 10 + d, _, by go_num, by go_num, rfl, by omega, HS2, by omega, rfl, rfl⟩
              case measure => have := HG.out; omega
            · go_wp2_with (go_at_call 78; refine HDG.out.mono ?_; rintro e w' ⟨rfl, rfl⟩)
              go_roundg (run - (j + 1))
              case rel => exact ⟨j + 1, v * 10 + d, _, by go_num, by go_num, rfl, by omega, HS2, by omega, rfl, rfl⟩
              case measure => have := HG.out; omega
        · rw [if_neg hv1, decide_eq_true (show 1000000000000 < v by omega), Bool.or_true] at hst2
          have hd1 : decide ((1000000000000 : Int) < (v : Int)) = true := decide_eq_true (by omega)
          have HS2 := Lib.hid hst2
          clear hst2 hdg hlen HF hdd hc0 hc9
          cases b
          · go_wp2_with (go_at_call 78; refine HDG.out.mono ?_; rintro e w' ⟨rfl, rfl⟩)
            go_roundg (run - (j + 1))
            case rel => exact ⟨j + 1, v, _, by go_num, by go_num, rfl, by omega, HS2, by omega, rfl, rfl⟩
            case measure => have := HG.out; omega
          · go_wp2_with (go_at_call 78; refine HDG.out.mono ?_; rintro e w' ⟨rfl, rfl⟩)
            go_roundg (run - (j + 1))
            case rel => exact ⟨j + 1, v, _, by go_num, by go_num, rfl, by omega, HS2, by omega, rfl, rfl⟩
            case measure => have := HG.out; omega
      · obtain rfl : j = run := by omega
        rw [HDE.out] at hdg
        have HDG := Lib.hid hdg
        have hft : ds.take j = ds := List.take_of_length_le (by rw [HDLEN.out]; exact Nat.le_refl _)
        rw [hft] at HF
        rw [HF.out] at HN
        have HHD : Hid (0 < j → q < l.length ∧ ds.head? = some (nth 0 l (q))) := Lib.hid fun h0 => by
          have hlt' : q < l.length := by have := (HDL.out 0 h0).1; omega
          refine ⟨hlt', ?_⟩
          rw [← HDS.out, drop_cons l 0 (q) hlt']
          cases j with
          | zero => omega
          | succ j => rfl
        clear hdg hlt hj HG hft HF hb
        by_cases h0 : j = 0
        · have hd0 : (((q : Int) + (j : Int)) == (q : Int)) = true := by simp; omega
          have HNE : Hid (numP (l.drop q) = .error 2) := Lib.hid (by rw [HN.out, if_pos (.inl (List.eq_nil_of_length_eq_zero (by rw [HDLEN.out, h0])))])
          clear h0
          go_wp2_with (go_at_call 78; refine HDG.out.mono ?_; rintro e w' ⟨rfl, rfl⟩)
          go_ret3
          rw [HNE.out]
          exact ⟨⟨_, rfl⟩, rfl⟩
        · obtain ⟨hf0, hhd⟩ := HHD.out (by omega)
          have hb3 := byte_nth l (q) hf0
          have hd0 : (((q : Int) + (j : Int)) == (q : Int)) = false := by simp; omega
          have hfi : ((q : Int) : Int) < l.length := by omega
          have hfn : ((q : Int) : Int).toNat = q := by omega
          generalize nth 0 l (q) = c3 at *
          have HN0 : Hid (ds ≠ []) := Lib.hid (by intro h; rw [h] at hhd; cases hhd)
          have HHE := Lib.hid hhd
          clear hhd
          by_cases h48 : c3 = 48
          · have hd1 : ((c3.toNat : Int) == 48) = true := by rw [h48]; rfl
            by_cases h1 : 1 < j
            · have hd2 : decide ((1 : Int) < (j : Int)) = true := decide_eq_true (by omega)
              have HNE : Hid (numP (l.drop q) = .error 2) := Lib.hid (by rw [HN.out, if_pos (.inr ⟨by rw [HHE.out, h48], by rw [HDLEN.out]; omega⟩)])
              clear h0 h48 h1
              go_wp2_with (go_at_call 78; refine HDG.out.mono ?_; rintro e w' ⟨rfl, rfl⟩)
              go_ret3
              rw [HNE.out]
              exact ⟨⟨_, rfl⟩, rfl⟩
            · have hd2 : decide ((1 : Int) < (j : Int)) = false := decide_eq_false (by omega)
              have HNK : Hid (¬ (ds = [] ∨ ds.head? = some 48 ∧ 1 < ds.length + 0)) := Lib.hid (by rintro (h | ⟨_, h⟩); exact HN0.out h; rw [HDLEN.out] at h; omega)
              clear h0 h48 h1
              have HNG : Hid (numP (l.drop q) = if b = true then .error 4 else .ok ((v : Int), 0 + ds.length)) := Lib.hid (by rw [HN.out, if_neg HNK.out]; rfl)
              cases b with
              | true =>
                have HNE : Hid (numP (l.drop q) = .error 4) := HNG
                go_wp2_with (go_at_call 78; refine HDG.out.mono ?_; rintro e w' ⟨rfl, rfl⟩)
                go_ret3
                rw [HNE.out]
                exact ⟨⟨_, rfl⟩, rfl⟩
              | false =>
                have HNE : Hid (numP (l.drop q) = .ok ((v : Int), 0 + ds.length)) := HNG
                go_wp2_with (go_at_call 78; refine HDG.out.mono ?_; rintro e w' ⟨rfl, rfl⟩)
                go_ret3
                rw [HNE.out]
                refine ⟨?_, rfl⟩
                have e1 : ((q + (0 + ds.length) : Nat) : Int) = (q : Int) + j := by have := HDLEN.out; omega
                show _ = Ending.returned (.tuple #[.int .i64 ((v : Int)), .int .i64 ((q + (0 + ds.length) : Nat) : Int), .int .i64 0])
                rw [e1]
                rfl
          · have hd1 : ((c3.toNat : Int) == 48) = false := by
              have : c3.toNat ≠ 48 := fun h => h48 (by apply UInt8.toNat_inj.1; rw [h]; rfl)
              simp; omega
            have HNK : Hid (¬ (ds = [] ∨ ds.head? = some 48 ∧ 1 < ds.length + 0)) := Lib.hid (by rintro (h | ⟨h, _⟩); exact HN0.out h; rw [HHE.out] at h; injection h with h; exact h48 h)
            clear h0 h48
            have HNG : Hid (numP (l.drop q) = if b = true then .error 4 else .ok ((v : Int), 0 + ds.length)) := Lib.hid (by rw [HN.out, if_neg HNK.out]; rfl)
            cases b with
            | true =>
              have HNE : Hid (numP (l.drop q) = .error 4) := HNG
              go_wp2_with (go_at_call 78; refine HDG.out.mono ?_; rintro e w' ⟨rfl, rfl⟩)
              go_ret3
              rw [HNE.out]
              exact ⟨⟨_, rfl⟩, rfl⟩
            | false =>
              have HNE : Hid (numP (l.drop q) = .ok ((v : Int), 0 + ds.length)) := HNG
              go_wp2_with (go_at_call 78; refine HDG.out.mono ?_; rintro e w' ⟨rfl, rfl⟩)
              go_ret3
              rw [HNE.out]
              refine ⟨?_, rfl⟩
              have e1 : ((q + (0 + ds.length) : Nat) : Int) = (q : Int) + j := by have := HDLEN.out; omega
              show _ = Ending.returned (.tuple #[.int .i64 ((v : Int)), .int .i64 ((q + (0 + ds.length) : Nat) : Int), .int .i64 0])
              rw [e1]
              rfl
end Go.Proofs.YtoahaigfjfeopaaGreatDoor
