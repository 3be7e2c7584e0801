/- inst.Parse. -/
import Derived.Test.YtoahaigfjfeopaaGreatDoorWah
namespace Go.Proofs.YtoahaigfjfeopaaGreatDoor
open Go.RowKit
attribute [local irreducible] wpStill wpLex Calls

/-- An instance in memory: its three rows; 'ok': in which blocks. -/
def InsAt (w : World) (ok : Nat → Prop) (dv hv sv : Value) (y : Ins) : Prop := Sl kRow w ok dv y.doms ∧ Sl kCon w ok hv y.hard ∧ Sl kSft w ok sv y.soft
/-- What Parse answers. -/
def ParseOut (w w' : World) (res : Except (Int × Int) Ins) (e : Ending) : Prop :=
  match res with
  | .error (p, x) => e = .returned (.tuple #[.agg #[.slice none 0 0, .slice none 0 0, .slice none 0 0], .int .i64 p, .int .i64 x])
  | .ok y => ∃ dv hv sv, e = .returned (.tuple #[.agg #[dv, hv, sv], .int .i64 0, .int .i64 0]) ∧ InsAt w' (w.heap.size ≤ ·) dv hv sv y ∧ y.doms.length ≤ 40 ∧ y.hard.length ≤ 200 ∧ y.soft.length ≤ 200

theorem signQ_len {s : List UInt8} {ts r : List Tok} {u : Unit} (h : signQ s ts = .ok (u, r)) : r.length + 1 = ts.length := by
  cases ts with
  | nil => cases h
  | cons t r0 => rw [signQ_ok h]; rfl
/-- Each statement told makes one row longer, within its bound. -/
theorem stmtQ_grow {x y : Ins} {ts r : List Tok} (h : stmtQ x ts = .ok (y, r)) (h1 : x.doms.length ≤ 40) (h2 : x.hard.length ≤ 200) (h3 : x.soft.length ≤ 200) : y.doms.length ≤ 40 ∧ y.hard.length ≤ 200 ∧ y.soft.length ≤ 200 := by
  simp only [stmtQ] at h
  split at h
  · cases h
  · generalize (nextQ ts).2 = r0 at h
    split at h
    · cases h
    · rename_i y' r' hy
      split at h
      · cases h
      · injection h with h
        injection h with h _
        subst h
        split at hy
        · split at hy
          · cases hy
          · split at hy
            · cases hy
            · injection hy with hy; injection hy with hy _; subst hy; exact ⟨by simp; omega, h2, h3⟩
        · split at hy
          · split at hy
            · cases hy
            · split at hy
              · cases hy
              · injection hy with hy; injection hy with hy _; subst hy; exact ⟨h1, h2, by simp; omega⟩
          · split at hy
            · cases hy
            · split at hy
              · cases hy
              · injection hy with hy; injection hy with hy _; subst hy; exact ⟨h1, by simp; omega, h3⟩
theorem isQ_len (s : List UInt8) (ts : List Tok) : (isQ s ts).2.length ≤ ts.length := by
  cases ts with
  | nil => exact Nat.le_refl _
  | cons t r => simp only [isQ]; split <;> simp
theorem domQ_len : ∀ (ts : List Tok) (d d' : List Int) (r : List Tok), domQ ts d = .ok (d', r) → r.length ≤ ts.length
  | [], d, d', r, h => by simp [domQ] at h
  | t :: ts, d, d', r, h => by
    rw [domQ] at h
    split at h
    · injection h with h; injection h with _ h; rw [← h]; exact Nat.le_refl _
    · split at h
      · cases h
      · split at h
        · cases h
        · split at h
          · cases h
          · have := domQ_len ts _ _ _ h; simp; omega
theorem rowsQ_len {doms : List (List Int)} {scope : List Int} : ∀ (n : Nat) (ahead rows : List (List Int)) (ts r : List Tok), rowsQ doms scope n ahead ts = .ok (rows, r) → r.length ≤ ts.length
  | 0, _, _, _, _, h => by cases h
  | n + 1, ahead, rows, ts, r, h => by
    rw [rowsQ] at h
    cases hr : rowQ doms scope ahead ts with
    | error e => rw [hr] at h; cases h
    | ok p =>
      obtain ⟨rows1, r1⟩ := p
      rw [hr] at h
      have h1 := (rowQ_len hr).1
      have h2 := isQ_len [44] r1
      simp only at h
      split at h
      · have := rowsQ_len n _ _ _ _ h; omega
      · injection h with h; injection h with _ h; rw [← h]; exact h1
theorem tableQ_len {doms : List (List Int)} {scope : List Int} {ts r : List Tok} {rows : List (List Int)} (h : tableQ doms scope ts = .ok (rows, r)) : r.length ≤ ts.length := by
  simp only [tableQ] at h
  split at h
  · cases h
  · rename_i hs
    have h1 := signQ_len hs
    split at h
    · injection h with h; injection h with _ h; rw [← h]; omega
    · have := rowsQ_len _ _ _ _ _ h; omega
theorem termsQ_len {nd : Nat} : ∀ (n : Nat) (args scope : List Int) (ts r : List Tok) (p : List Int × List Int), termsQ nd n args scope ts = .ok (p, r) → r.length ≤ ts.length
  | 0, _, _, _, _, _, h => by cases h
  | n + 1, args, scope, ts, r, p, h => by
    rw [termsQ] at h
    split at h
    · cases h
    · rename_i t r1 hn
      obtain ⟨rfl, _⟩ := numberQ_ok hn
      split at h
      · cases h
      · split at h
        · cases h
        · rename_i scope' r2 hv
          have h3 : r2.length ≤ r1.length := by
            cases r1 with
            | nil => cases hv
            | cons t1 r1 => obtain ⟨_, h, _⟩ := varQ_ok hv; rw [h]; simp
          have h4 := isQ_len [44] r2
          split at h
          · have := termsQ_len n _ _ _ _ _ h; simp; omega
          · injection h with h; injection h with _ h; rw [← h]; simp; omega
theorem nextQ_len (ts : List Tok) : (nextQ ts).2.length ≤ ts.length := by
  cases ts with
  | nil => exact Nat.le_refl _
  | cons t r => simp only [nextQ]; split <;> simp
theorem linearQ_len {nd : Nat} {ts r : List Tok} {p : List Int × List Int} (h : linearQ nd ts = .ok (p, r)) : r.length ≤ ts.length := by
  rw [linearQ_eq] at h
  split at h
  · cases h
  · rename_i q r1 hq
    have h1 := termsQ_len _ _ _ _ _ _ hq
    simp only [linTail] at h
    split at h
    · cases h
    · rename_i r2 hs
      have h2 := signQ_len hs
      have h3 := nextQ_len r2
      split at h
      · split at h
        · cases h
        · rename_i u r3 hn
          have h4 := (numberQ_ok hn).1
          injection h with h; injection h with _ h
          rw [← h]
          have : (nextQ r2).2.length = r3.length + 1 := by rw [h4]; rfl
          omega
      · cases h
theorem hardQ_len {doms : List (List Int)} {kind : Int} {ts r : List Tok} {c : Con} (h : hardQ doms kind ts = .ok (c, r)) : r.length ≤ ts.length := by
  rw [hardQ] at h
  split at h
  · split at h
    · cases h
    · rename_i hq
      injection h with h; injection h with _ h
      rw [← h]; exact linearQ_len hq
  · split at h
    · cases h
    · rename_i hs
      have h1 := scopeQ_len _ _ _ _ hs
      split at h
      · split at h
        · cases h
        · rename_i ht
          have h2 := tableQ_len ht
          injection h with h; injection h with _ h
          rw [← h]; omega
      · injection h with h; injection h with _ h
        rw [← h]; exact h1
theorem costsQ_len {doms : List (List Int)} {scope : List Int} : ∀ (n : Nat) (rows : List (List Int)) (costs : List Int) (ts r : List Tok) (p : List (List Int) × List Int), costsQ doms scope n rows costs ts = .ok (p, r) → r.length ≤ ts.length
  | 0, _, _, _, _, _, h => by cases h
  | n + 1, rows, costs, ts, r, p, h => by
    have h1 := isQ_len [44] ts
    rw [costsQ] at h
    split at h
    · split at h
      · cases h
      · rename_i hr
        have h2 := (rowQ_len hr).1
        split at h
        · cases h
        · rename_i t r2 hn
          have h3 := (numberQ_ok hn).1
          have h4 := costsQ_len n _ _ _ _ _ h
          rw [h3] at h2
          simp at h2; omega
    · injection h with h; injection h with _ h; rw [← h]; exact Nat.le_refl _
theorem softQ_len {doms : List (List Int)} {ts r : List Tok} {s : Sft} (h : softQ doms ts = .ok (s, r)) : r.length ≤ ts.length := by
  rw [softQ] at h
  split at h
  · cases h
  · rename_i hs
    have h1 := scopeQ_len _ _ _ _ hs
    split at h
    · cases h
    · rename_i hg
      have h2 := signQ_len hg
      split at h
      · cases h
      · rename_i hn
        have h3 := (numberQ_ok hn).1
        split at h
        · cases h
        · rename_i hc
          have h4 := costsQ_len _ _ _ _ _ _ hc
          injection h with h; injection h with _ h
          rw [← h]
          rw [h3] at h2
          simp at h2; omega
theorem stmtQ_len {x y : Ins} {ts r : List Tok} (h : stmtQ x ts = .ok (y, r)) : r.length < ts.length := by
  have h0 := nextQ_len ts
  simp only [stmtQ] at h
  split at h
  · cases h
  · generalize (nextQ ts).2 = r0 at h h0
    split at h
    · cases h
    · rename_i y' r' hy
      split at h
      · cases h
      · rename_i hs
        have h1 := signQ_len hs
        injection h with h
        injection h with _ h
        subst h
        suffices r'.length ≤ r0.length by omega
        split at hy
        · split at hy
          · cases hy
          · split at hy
            · cases hy
            · rename_i hd
              have := domQ_len _ _ _ _ hd
              injection hy with hy; injection hy with _ hy; rw [← hy]; exact this
        · split at hy
          · split at hy
            · cases hy
            · split at hy
              · cases hy
              · rename_i hd
                have := softQ_len hd
                injection hy with hy; injection hy with _ hy; rw [← hy]; exact this
          · split at hy
            · cases hy
            · split at hy
              · cases hy
              · rename_i hd
                have := hardQ_len hd
                injection hy with hy; injection hy with _ hy; rw [← hy]; exact this
theorem scanP_ok : ∀ (f a : Nat) (l : List UInt8) (ts : List Tok), l.length < f → scanP f a l = .ok ts → Toks ts
  | 0, _, _, _, h, _ => by omega
  | f + 1, a, l, ts, hf, h => by
    rw [scanP] at h
    split at h
    · injection h with h; subst h; exact Or.inl rfl
    · rename_i hne
      have hpos : 0 < l.length := List.length_pos_iff.2 hne
      split at h
      · have := leftP_le l
        exact scanP_ok f _ _ _ (by rw [List.length_drop]; omega) h
      · split at h
        · cases h
        · rename_i t k ht
          have hk := tokenP_size ht
          split at h
          · rename_i ts' hs
            injection h with h
            subst h
            exact Or.inr (scanP_ok f _ _ _ (by rw [List.length_drop]; omega) hs)
          · cases h
theorem scanP_err : ∀ (f a : Nat) (l : List UInt8) (p : Nat) (x : Int), scanP f a l = .error (p, x) → x = 2 ∨ x = 4
  | 0, _, _, _, _, h => by cases h
  | f + 1, a, l, p, x, h => by
    rw [scanP] at h
    split at h
    · cases h
    · split at h
      · exact scanP_err f _ _ _ _ h
      · split at h
        · rename_i e he
          injection h with h; injection h with _ h; subst h
          exact tokenP_err he
        · split at h
          · cases h
          · rename_i e hs
            injection h with h; subst h
            exact scanP_err f _ _ _ _ hs
theorem allP_ok {l : List UInt8} {ts : List Tok} (h : allP l = .ok ts) : Toks ts := by
  rw [allP] at h
  split at h
  · cases h
  · exact scanP_ok _ _ _ _ (Nat.lt_succ_self _) h
theorem allP_err {l : List UInt8} {p : Nat} {x : Int} (h : allP l = .error (p, x)) : x ≠ 0 := by
  rw [allP] at h
  split at h
  · injection h with h; injection h with _ h; subst h; decide
  · rcases scanP_err _ _ _ _ _ h with h | h <;> (rw [h]; decide)
theorem stmtsQ_end {n : Nat} {x : Ins} {t : Tok} {r : List Tok} (h : t.kind = 4) : stmtsQ (n + 1) x (t :: r) = .ok x := by rw [stmtsQ]; simp [nth, h]
theorem stmtsQ_err {n : Nat} {x : Ins} {t : Tok} {r : List Tok} {e : Int × Int} (h : ¬ t.kind = 4) (hs : stmtQ x (t :: r) = .error e) : stmtsQ (n + 1) x (t :: r) = .error e := by rw [stmtsQ]; simp [nth, h, hs]
theorem stmtsQ_go {n : Nat} {x y : Ins} {t : Tok} {r r' : List Tok} (h : ¬ t.kind = 4) (hs : stmtQ x (t :: r) = .ok (y, r')) : stmtsQ (n + 1) x (t :: r) = stmtsQ n y r' := by rw [stmtsQ]; simp [nth, h, hs]

theorem five_sets {wr : World} {n ba be : Nat} {a b c d e : Value} {tn ta te : TypeId} (hx : wr.heap[n]? = some (.cells #[a, b, c] tn (0, 0))) (ha : wr.heap[ba]? = some (.cells #[d] ta (0, 0))) (he : wr.heap[be]? = some (.cells #[e] te (0, 0))) (h1 : n < ba) (h2 : ba < be) (A B C D E : Value) :
    (((((wr.setCell ⟨n, 0, none⟩ A).setCell ⟨n, 1, none⟩ B).setCell ⟨n, 2, none⟩ C).setCell ⟨ba, 0, none⟩ D).setCell ⟨be, 0, none⟩ E).heap[n]? = some (.cells #[A, B, C] tn (0, 0)) ∧
    (((((wr.setCell ⟨n, 0, none⟩ A).setCell ⟨n, 1, none⟩ B).setCell ⟨n, 2, none⟩ C).setCell ⟨ba, 0, none⟩ D).setCell ⟨be, 0, none⟩ E).heap[ba]? = some (.cells #[D] ta (0, 0)) ∧
    (((((wr.setCell ⟨n, 0, none⟩ A).setCell ⟨n, 1, none⟩ B).setCell ⟨n, 2, none⟩ C).setCell ⟨ba, 0, none⟩ D).setCell ⟨be, 0, none⟩ E).heap[be]? = some (.cells #[E] te (0, 0)) ∧
    Chg (fun k => k = n ∨ k = ba ∨ k = be) wr (((((wr.setCell ⟨n, 0, none⟩ A).setCell ⟨n, 1, none⟩ B).setCell ⟨n, 2, none⟩ C).setCell ⟨ba, 0, none⟩ D).setCell ⟨be, 0, none⟩ E) := by
  have hV3 : (((wr.setCell ⟨n, 0, none⟩ A).setCell ⟨n, 1, none⟩ B).setCell ⟨n, 2, none⟩ C).heap[n]? = some (.cells #[A, B, C] tn (0, 0)) := by
    rw [heap_setAt (heap_setAt (heap_setAt hx (i := 0) _) (i := 1) _) (i := 2) _]
    rfl
  have hG3 : Chg (fun k => k = n) wr (((wr.setCell ⟨n, 0, none⟩ A).setCell ⟨n, 1, none⟩ B).setCell ⟨n, 2, none⟩ C) :=
    ((chg_setCell wr n 0 _).trans (chg_setCell _ n 1 _) (fun _ _ h => h)).trans (chg_setCell _ n 2 _) (fun _ _ h => h)
  generalize ((wr.setCell ⟨n, 0, none⟩ A).setCell ⟨n, 1, none⟩ B).setCell ⟨n, 2, none⟩ C = V at *
  have hA := hG3.heap ha (fun e => by omega)
  have hE := hG3.heap he (fun e => by omega)
  have hA4 : (V.setCell ⟨ba, 0, none⟩ D).heap[ba]? = some (.cells #[D] ta (0, 0)) := heap_setAt hA (i := 0) D
  have hV4 := (chg_setCell V ba 0 D).heap hV3 (fun e => by omega)
  have hE4 := (chg_setCell V ba 0 D).heap hE (fun e => by omega)
  have hG4 := (hG3.mono (T := fun k => k = n ∨ k = ba ∨ k = be) (fun _ _ e => Or.inl e)).trans (chg_setCell V ba 0 D) (fun _ _ e => Or.inr (Or.inl e))
  generalize V.setCell ⟨ba, 0, none⟩ D = V4 at *
  exact ⟨(chg_setCell V4 be 0 E).heap hV4 (fun e => by omega), (chg_setCell V4 be 0 E).heap hA4 (fun e => by omega), heap_setAt hE4 (i := 0) E, hG4.trans (chg_setCell V4 be 0 E) (fun _ _ e => Or.inr (Or.inr e))⟩
def ParRel (g : Nat) (w3 : World) (res : Except (Int × Int) Ins) (k : Nat) (wr : World) : Prop :=
  ∃ ts' x n, k = ts'.length ∧ res = stmtsQ (n + 1) x ts' ∧ ts'.length ≤ n ∧ ts'.length ≤ 150000 ∧ x.doms.length ≤ 40 ∧ x.hard.length ≤ 200 ∧ x.soft.length ≤ 200 ∧ PAll g wr ts' x ∧ Below g w3 wr
set_option maxRecDepth 100000 in
set_option maxHeartbeats 4000000 in
theorem parse_any (l : List UInt8) (w : World) (hE : Env0 w) (hT : Tabs w) (h8 : 8 ≤ w.heap.size) (hl : l.length ≤ 140737488355328) :
    Calls Tryz.prog 18 #[.string ⟨l.toArray⟩] w fun e w' => ParseOut w w' (parseP l) e ∧ Below w.heap.size w w' := by
  have hmf : ∀ (fn : Fn) (first cap : Array Value) (w : World), (Instr.makeFunc fn first cap).run Tryz.prog w = .ok (.func fn first cap) w := fun _ _ _ _ => rfl
  have hb1 : Below w.heap.size w (((w.alloc (.cells #[.slice none 0 0, .slice none 0 0, .slice none 0 0] 26)).alloc (.cells #[.int .i64 0] 3)).alloc (.cells #[.int .i64 0] 32)) :=
    (((Below.refl _ _).alloc (Nat.le_refl _) _).alloc (by simp) _).alloc (by simp; omega) _
  have hx1 : (((w.alloc (.cells #[.slice none 0 0, .slice none 0 0, .slice none 0 0] 26)).alloc (.cells #[.int .i64 0] 3)).alloc (.cells #[.int .i64 0] 32)).heap[w.heap.size]? = some (.cells #[.slice none 0 0, .slice none 0 0, .slice none 0 0] 26 (0, 0)) :=
    block_kept (below_alloc1 _ _) (block_kept (below_alloc1 _ _) (heap_alloc_new w _))
  have ha1 : (((w.alloc (.cells #[.slice none 0 0, .slice none 0 0, .slice none 0 0] 26)).alloc (.cells #[.int .i64 0] 3)).alloc (.cells #[.int .i64 0] 32)).heap[w.heap.size + 1]? = some (.cells #[.int .i64 0] 3 (0, 0)) := by
    have e : (w.alloc (.cells #[.slice none 0 0, .slice none 0 0, .slice none 0 0] 26)).heap.size = w.heap.size + 1 := by simp
    rw [← e]
    exact block_kept (below_alloc1 _ _) (heap_alloc_new _ _)
  have he1 : (((w.alloc (.cells #[.slice none 0 0, .slice none 0 0, .slice none 0 0] 26)).alloc (.cells #[.int .i64 0] 3)).alloc (.cells #[.int .i64 0] 32)).heap[w.heap.size + 1 + 1]? = some (.cells #[.int .i64 0] 32 (0, 0)) := by
    have e : ((w.alloc (.cells #[.slice none 0 0, .slice none 0 0, .slice none 0 0] 26)).alloc (.cells #[.int .i64 0] 3)).heap.size = w.heap.size + 1 + 1 := by simp
    rw [← e]
    exact heap_alloc_new _ _
  have hs1 : w.heap.size + 1 + 1 < (((w.alloc (.cells #[.slice none 0 0, .slice none 0 0, .slice none 0 0] 26)).alloc (.cells #[.int .i64 0] 3)).alloc (.cells #[.int .i64 0] 32)).heap.size := by simp
  have hall := Lib.hid (all_any l _ (hE.below hb1 h8) (Nat.le_trans h8 hb1.size) hl)
  have HB1 := Lib.hid hb1
  have HX1 := Lib.hid hx1
  have HA1 := Lib.hid ha1
  have HE1 := Lib.hid he1
  have HT1 := Lib.hid (hT.below hb1 h8)
  clear hb1 hx1 ha1 he1 hE hT
  go_enter_defers Tryz.func18, Tryz.ntmps18
  go_wp2_with fail
  generalize ((w.alloc (.cells #[.slice none 0 0, .slice none 0 0, .slice none 0 0] 26)).alloc (.cells #[.int .i64 0] 3)).alloc (.cells #[.int .i64 0] 32) = W1 at *
  have hxa : w.heap.size < w.heap.size + 1 := Nat.lt_succ_self _
  have hae : w.heap.size + 1 < w.heap.size + 1 + 1 := Nat.lt_succ_self _
  generalize w.heap.size + 1 + 1 = be at *
  generalize w.heap.size + 1 = ba at *
  rcases hq : allP l with ⟨p, x⟩ | ts
  · have HR : Hid (parseP l = .error ((p : Int), x)) := Lib.hid (by rw [parseP, hq])
    have hx0 : (x != 0) = true := by simpa using allP_err hq
    rw [hq] at hall
    clear hq
    refine hall.out.mono ?_
    rintro e W2 ⟨he, hb⟩
    simp only at he
    subst he
    have hX2 := block_kept hb HX1.out
    have hA2 := block_kept hb HA1.out
    have hE2 := block_kept hb HE1.out
    have HB2 := Lib.hid (HB1.out.trans (hb.mono (by have := HB1.out.size; omega)))
    have y1 := cell_at hA2 (i := 0) rfl
    have yf := Lib.frozen_of_heap hA2 0
    have y2 := cell_at hE2 (i := 0) rfl
    have yg := Lib.frozen_of_heap hE2 0
    have HX2 := Lib.hid hX2
    have HA2 := Lib.hid hA2
    have HE2 := Lib.hid hE2
    clear hall hb hX2 hA2 hE2 HX1 HA1 HE1
    go_wp2_with fail
    have hV2 : ((W2.setCell ⟨ba, 0, none⟩ (.int .i64 p)).setCell ⟨be, 0, none⟩ (.int .i64 x)).drew.heap[w.heap.size]? = _ := (chg_setCell _ be 0 (.int .i64 x)).heap ((chg_setCell W2 ba 0 (.int .i64 p)).heap HX2.out (fun e => by omega)) (fun e => by omega)
    have hA3 : ((W2.setCell ⟨ba, 0, none⟩ (.int .i64 p)).setCell ⟨be, 0, none⟩ (.int .i64 x)).drew.heap[ba]? = some (.cells #[.int .i64 p] 3 (0, 0)) := (chg_setCell _ be 0 (.int .i64 x)).heap (heap_setAt HA2.out (i := 0) (.int .i64 p)) (fun e => by omega)
    have hE3 : ((W2.setCell ⟨ba, 0, none⟩ (.int .i64 p)).setCell ⟨be, 0, none⟩ (.int .i64 x)).drew.heap[be]? = some (.cells #[.int .i64 x] 32 (0, 0)) := heap_setAt ((chg_setCell W2 ba 0 (.int .i64 p)).heap HE2.out (fun e => by omega)) (i := 0) (.int .i64 x)
    have hB3 : Below w.heap.size w ((W2.setCell ⟨ba, 0, none⟩ (.int .i64 p)).setCell ⟨be, 0, none⟩ (.int .i64 x)).drew := HB2.out.trans ((((chg_setCell W2 ba 0 (.int .i64 p)).mono (fun _ _ e => (Or.inl e : _ ∨ _))).trans (chg_setCell _ be 0 (.int .i64 x)) (fun _ _ e => Or.inr e)).drew.below (fun k hk e => by omega) HB2.out.size)
    have HB3 := Lib.hid hB3
    refine wp_region_noPanic ?_
    refine wp_region_lex (fun w' => w'.heap[w.heap.size]? = some (.cells #[.slice none 0 0, .slice none 0 0, .slice none 0 0] 26 (0, 0)) ∧ w'.heap[ba]? = some (.cells #[.int .i64 p] 3 (0, 0)) ∧ w'.heap[be]? = some (.cells #[.int .i64 x] 32 (0, 0))) [true, true, true, false, false, false] (by kernel_rfl) (by kernel_rfl) (fun c a d v w h => h) ?_
    change wpLex _ _ _ _ _ _ _ _ _ (World.drew ((W2.setCell ⟨ba, 0, none⟩ (.int .i64 p)).setCell ⟨be, 0, none⟩ (.int .i64 x)))
    clear y1 yf y2 yg HX2 HA2 HE2 HB2 hB3
    generalize World.drew ((W2.setCell ⟨ba, 0, none⟩ (.int .i64 p)).setCell ⟨be, 0, none⟩ (.int .i64 x)) = V at *
    iterate 3 (refine lex_take ⟨hV2, hA3, hE3⟩ rfl (fun w' hw' => by (obtain ⟨q1, q2, q3⟩ := hw'; (have r1 := cell_at q1 (i := 0) rfl); (have r2 := cell_at q1 (i := 1) rfl); (have r3 := cell_at q1 (i := 2) rfl); (have r4 := cell_at q2 (i := 0) rfl); (have r5 := cell_at q3 (i := 0) rfl); (try go_simp); try rfl)) (fun K hK => ?_); go_simp; refine hK _ _ ?_; clear hK K)
    have r1 := cell_at hV2 (i := 0) rfl
    have r2 := cell_at hV2 (i := 1) rfl
    have r3 := cell_at hV2 (i := 2) rfl
    have rf := fun i => Lib.frozen_of_heap hV2 i
    refine lex_step rfl (fun K hK => ?_)
    go_wp2_with fail
    have hV3 : (((V.setCell ⟨w.heap.size, 0, none⟩ (.slice none 0 0)).setCell ⟨w.heap.size, 1, none⟩ (.slice none 0 0)).setCell ⟨w.heap.size, 2, none⟩ (.slice none 0 0)).heap[w.heap.size]? = some (.cells #[.slice none 0 0, .slice none 0 0, .slice none 0 0] 26 (0, 0)) := by
      rw [heap_setAt (heap_setAt (heap_setAt hV2 (i := 0) _) (i := 1) _) (i := 2) _]
      rfl
    have hG3 : Chg (fun k => k = w.heap.size) V (((V.setCell ⟨w.heap.size, 0, none⟩ (.slice none 0 0)).setCell ⟨w.heap.size, 1, none⟩ (.slice none 0 0)).setCell ⟨w.heap.size, 2, none⟩ (.slice none 0 0)) :=
      ((chg_setCell V w.heap.size 0 _).trans (chg_setCell _ w.heap.size 1 _) (fun _ _ h => h)).trans (chg_setCell _ w.heap.size 2 _) (fun _ _ h => h)
    generalize ((V.setCell ⟨w.heap.size, 0, none⟩ (.slice none 0 0)).setCell ⟨w.heap.size, 1, none⟩ (.slice none 0 0)).setCell ⟨w.heap.size, 2, none⟩ (.slice none 0 0) = V3 at *
    have hA4 := hG3.heap hA3 (fun e => by omega)
    have hE4 := hG3.heap hE3 (fun e => by omega)
    have HB4 := Lib.hid (HB3.out.trans (hG3.below (B := w.heap.size) (fun k hk e => by omega) HB3.out.size))
    clear r1 r2 r3 rf hG3 hV2 hA3 hE3
    have y1 := cell_at hA4 (i := 0) rfl
    have yf := Lib.frozen_of_heap hA4 0
    refine hK _ _ ⟨hV3, hA4, hE4⟩ ?_
    clear hK K
    refine lex_step rfl (fun K hK => ?_)
    go_wp2_with fail
    have hG5 := chg_setCell V3 ba 0 (.int .i64 p)
    have hA5 : (V3.setCell ⟨ba, 0, none⟩ (.int .i64 p)).heap[ba]? = some (.cells #[.int .i64 p] 3 (0, 0)) := heap_setAt hA4 (i := 0) (.int .i64 p)
    have hV5 := hG5.heap hV3 (fun e => by omega)
    have hE5 := hG5.heap hE4 (fun e => by omega)
    have HB5 := Lib.hid (HB4.out.trans (hG5.below (B := w.heap.size) (fun k hk e => by omega) HB4.out.size))
    generalize V3.setCell ⟨ba, 0, none⟩ (.int .i64 p) = V5 at *
    clear y1 yf hG5 hV3 hA4 hE4
    have y1 := cell_at hE5 (i := 0) rfl
    have yf := Lib.frozen_of_heap hE5 0
    refine hK _ _ ⟨hV5, hA5, hE5⟩ ?_
    clear hK K
    refine lex_step rfl (fun K hK => ?_)
    go_wp2_with fail
    have hG6 := chg_setCell V5 be 0 (.int .i64 x)
    have hE6 : (V5.setCell ⟨be, 0, none⟩ (.int .i64 x)).heap[be]? = some (.cells #[.int .i64 x] 32 (0, 0)) := heap_setAt hE5 (i := 0) (.int .i64 x)
    have hV6 := hG6.heap hV5 (fun e => by omega)
    have hA6 := hG6.heap hA5 (fun e => by omega)
    have HB6 := Lib.hid (HB5.out.trans (hG6.below (B := w.heap.size) (fun k hk e => by omega) HB5.out.size))
    generalize V5.setCell ⟨be, 0, none⟩ (.int .i64 x) = V6 at *
    refine hK _ _ ⟨hV6, hA6, hE6⟩ ?_
    clear hK K y1 yf hG6 hV5 hA5 hE5
    refine lex_nil ?_
    refine NoPanic.normal ?_
    have r1 := cell_at hV6 (i := 0) rfl
    have r2 := cell_at hV6 (i := 1) rfl
    have r3 := cell_at hV6 (i := 2) rfl
    have r4 := cell_at hA6 (i := 0) rfl
    have r5 := cell_at hE6 (i := 0) rfl
    clear hV6 hA6 hE6
    go_wp2
    refine ⟨.tuple #[.agg #[.slice none 0 0, .slice none 0 0, .slice none 0 0], .int .i64 p, .int .i64 x], ?_, ?_, HB6.out⟩
    · simp [results, Tryz.results18, go_sem, r1, r2, r3, r4, r5]
    · rw [HR.out]; rfl
  · have hq2 : parseP l = stmtsQ (ts.length + 1) ⟨[], [], []⟩ ts := by rw [parseP, hq]
    have HQ := Lib.hid hq2
    have HTK := Lib.hid (allP_ok hq)
    rw [hq] at hall
    clear hq hq2
    refine hall.out.mono ?_
    rintro e W2 ⟨⟨v, rfl, hot, htl⟩, hb⟩
    obtain ⟨TA, Tc, rfl, _, _, _⟩ := hot.sl (by omega)
    have hX2 := block_kept hb HX1.out
    have hA2 := block_kept hb HA1.out
    have hE2 := block_kept hb HE1.out
    have HB2 := Lib.hid (HB1.out.trans (hb.mono (by have := HB1.out.size; omega)))
    have HT2 := Lib.hid (HT1.out.below hb (by have := HB1.out.size; omega))
    have y1 := cell_at hA2 (i := 0) rfl
    have yf := Lib.frozen_of_heap hA2 0
    have y2 := cell_at hE2 (i := 0) rfl
    have yg := Lib.frozen_of_heap hE2 0
    have hsz2 := hb.size
    have HX2 := Lib.hid hX2
    have HA2 := Lib.hid hA2
    have HE2 := Lib.hid hE2
    have HOT := Lib.hid hot
    clear hall hb hX2 hA2 hE2 HX1 HA1 HE1 hot HT1
    go_wp2_with fail
    have hF : Chg (fun k => k = ba ∨ k = be) W2 (((W2.setCell ⟨ba, 0, none⟩ (.int .i64 0)).setCell ⟨be, 0, none⟩ (.int .i64 0)).alloc (.cells #[.slice TA ts.length Tc, .slice none 0 0, .slice none 0 0, .slice none 0 0] 81)) :=
      (((chg_setCell W2 ba 0 (.int .i64 0)).mono (fun _ _ e => (Or.inl e : _ ∨ _))).trans (chg_setCell _ be 0 (.int .i64 0)) (fun _ _ e => Or.inr e)).alloc _
    have hsz3 : ((W2.setCell ⟨ba, 0, none⟩ (.int .i64 0)).setCell ⟨be, 0, none⟩ (.int .i64 0)).heap.size = W2.heap.size := by rw [Go.Deep.nblk_setCell, Go.Deep.nblk_setCell]
    have hX3 := hF.heap HX2.out (fun e => by omega)
    have hA3 : (((W2.setCell ⟨ba, 0, none⟩ (.int .i64 0)).setCell ⟨be, 0, none⟩ (.int .i64 0)).alloc (.cells #[.slice TA ts.length Tc, .slice none 0 0, .slice none 0 0, .slice none 0 0] 81)).heap[ba]? = some (.cells #[.int .i64 0] 3 (0, 0)) :=
      block_kept (below_alloc1 _ _) ((chg_setCell _ be 0 (.int .i64 0)).heap (heap_setAt HA2.out (i := 0) (.int .i64 0)) (fun e => by omega))
    have hE3 : (((W2.setCell ⟨ba, 0, none⟩ (.int .i64 0)).setCell ⟨be, 0, none⟩ (.int .i64 0)).alloc (.cells #[.slice TA ts.length Tc, .slice none 0 0, .slice none 0 0, .slice none 0 0] 81)).heap[be]? = some (.cells #[.int .i64 0] 32 (0, 0)) :=
      block_kept (below_alloc1 _ _) (heap_setAt ((chg_setCell W2 ba 0 (.int .i64 0)).heap HE2.out (fun e => by omega)) (i := 0) (.int .i64 0))
    have hG3 : (((W2.setCell ⟨ba, 0, none⟩ (.int .i64 0)).setCell ⟨be, 0, none⟩ (.int .i64 0)).alloc (.cells #[.slice TA ts.length Tc, .slice none 0 0, .slice none 0 0, .slice none 0 0] 81)).heap[W2.heap.size]? = some (.cells #[.slice TA ts.length Tc, .slice none 0 0, .slice none 0 0, .slice none 0 0] 81 (0, 0)) := by
      rw [← hsz3]; exact heap_alloc_new _ _
    have hB3 : Below w.heap.size w (((W2.setCell ⟨ba, 0, none⟩ (.int .i64 0)).setCell ⟨be, 0, none⟩ (.int .i64 0)).alloc (.cells #[.slice TA ts.length Tc, .slice none 0 0, .slice none 0 0, .slice none 0 0] 81)) := HB2.out.trans (hF.below (B := w.heap.size) (fun k hk e => by omega) HB2.out.size)
    have hT3 : Tabs (((W2.setCell ⟨ba, 0, none⟩ (.int .i64 0)).setCell ⟨be, 0, none⟩ (.int .i64 0)).alloc (.cells #[.slice TA ts.length Tc, .slice none 0 0, .slice none 0 0, .slice none 0 0] 81)) := HT2.out.below (hF.below (B := w.heap.size) (fun k hk e => by omega) HB2.out.size) h8
    have hP3 : PAll W2.heap.size (((W2.setCell ⟨ba, 0, none⟩ (.int .i64 0)).setCell ⟨be, 0, none⟩ (.int .i64 0)).alloc (.cells #[.slice TA ts.length Tc, .slice none 0 0, .slice none 0 0, .slice none 0 0] 81)) ts ⟨[], [], []⟩ := by
      refine ⟨_, _, _, (fun _ => False), ⟨TA, ts.length, Tc, hG3, ?_⟩, ⟨OwnD.nil _ _ _ _ _, OwnD.nil _ _ _ _ _, OwnD.nil _ _ _ _ _, fun _ h => h.elim, fun k h => by simp [Value.ownBlock] at h, fun k h => by simp [Value.ownBlock] at h, fun k h => by simp [Value.ownBlock] at h⟩, HTK.out⟩
      have := ((HOT.out.sl (by omega)).move (w1 := W2) (by decide) (fun _ _ _ => rfl))
      exact (this.chg (by decide) hF (fun k hk e => by have := hk.1; omega)).mono fun k hk => hk.2
    have HX3 := Lib.hid hX3
    have HA3 := Lib.hid hA3
    have HE3 := Lib.hid hE3
    have HB3 := Lib.hid hB3
    have HT3 := Lib.hid hT3
    have HP3 := Lib.hid hP3
    have hg8 : 8 ≤ W2.heap.size := by have := HB2.out.size; omega
    have hbg : be < W2.heap.size := by omega
    clear y1 yf y2 yg hF hsz3 hX3 hA3 hE3 hG3 hB3 hT3 hP3 HX2 HA2 HE2 HB2 HT2 HOT
    generalize ((W2.setCell ⟨ba, 0, none⟩ (.int .i64 0)).setCell ⟨be, 0, none⟩ (.int .i64 0)).alloc (.cells #[.slice TA ts.length Tc, .slice none 0 0, .slice none 0 0, .slice none 0 0] 81) = W3 at *
    generalize W2.heap.size = g at *
    obtain ⟨res, hres⟩ : ∃ res, res = parseP l := ⟨_, rfl⟩
    have HRES := Lib.hid hres
    clear hres
    go_loopg [22] ts.length (fun k _ wr => ParRel g W3 res k wr)
    case atStart => exact ⟨ts, ⟨[], [], []⟩, ts.length, rfl, HRES.out.trans HQ.out, Nat.le_refl _, by omega, by simp, by simp, by simp, HP3.out, Below.refl _ _⟩
    case round =>
      clear HP3 HTK
      obtain ⟨ts3, x, fu, hk, hq, hfu, hl5, hx1, hx2, hx3, hpa, hbw⟩ := hrel
      obtain ⟨t5, r5, rfl⟩ := hpa.toks.cons
      have HK := Lib.hid hk
      have HQ2 := Lib.hid hq
      have HPA := Lib.hid hpa
      have HBW := Lib.hid hbw
      have hst := Lib.hid (statement_p g wr _ x hpa hx1 hx2 hx3 hl5 (HT3.out.below hbw hg8) hg8)
      obtain ⟨dv, hv, sv, ok, hp, hs, _⟩ := hpa
      obtain ⟨DA, Dc, rfl, _, _, _⟩ := hs.D.sl (by omega)
      obtain ⟨HA, Hc, rfl, _, _, _⟩ := hs.H.sl (by omega)
      obtain ⟨SA, Sc, rfl, _, _, _⟩ := hs.S.sl (by omega)
      obtain ⟨A, n, c, hgb, hsl⟩ := hp
      obtain ⟨b, o, rfl, hb, hn, hnc, hmc, c0, c1, c2, c3⟩ := tok_head hsl
      have g0 := cell_at hgb (i := 0) rfl
      have hn0 : 0 < n := by omega
      have HGB := Lib.hid hgb
      have HS := Lib.hid hs
      clear hgb hsl hn hs hk hq hbw
      generalize (ByteArray.mk t5.text.toArray) = tb at c1
      by_cases h4 : t5.kind = 4
      · have HR : Hid (parseP l = .ok x) := Lib.hid (by rw [← HRES.out, HQ2.out]; exact stmtsQ_end h4)
        have h4b : (t5.kind != 4) = false := by simp [h4]
        have g1 := cell_at HGB.out (i := 1) rfl
        have g2 := cell_at HGB.out (i := 2) rfl
        have g3 := cell_at HGB.out (i := 3) rfl
        have hxw : wr.heap[w.heap.size]? = _ := (HBW.out.block w.heap.size (by omega)).trans HX3.out
        have haw : wr.heap[ba]? = _ := (HBW.out.block ba (by omega)).trans HA3.out
        have hew : wr.heap[be]? = _ := (HBW.out.block be (by omega)).trans HE3.out
        have r1 := cell_at hxw (i := 0) rfl
        have r2 := cell_at hxw (i := 1) rfl
        have r3 := cell_at hxw (i := 2) rfl
        have rf := fun i => Lib.frozen_of_heap hxw i
        have r4 := cell_at haw (i := 0) rfl
        have rg := Lib.frozen_of_heap haw 0
        have r5 := cell_at hew (i := 0) rfl
        have rh := Lib.frozen_of_heap hew 0
        have HXW := Lib.hid hxw
        have HAW := Lib.hid haw
        have HEW := Lib.hid hew
        clear hxw haw hew h4
        go_wp2
        have h5 := Lib.hid (five_sets HXW.out HAW.out HEW.out hxa hae (.slice DA x.doms.length Dc) (.slice HA x.hard.length Hc) (.slice SA x.soft.length Sc) (.int .i64 0) (.int .i64 0))
        generalize ((((wr.setCell ⟨w.heap.size, 0, none⟩ (.slice DA x.doms.length Dc)).setCell ⟨w.heap.size, 1, none⟩ (.slice HA x.hard.length Hc)).setCell ⟨w.heap.size, 2, none⟩ (.slice SA x.soft.length Sc)).setCell ⟨ba, 0, none⟩ (.int .i64 0)).setCell ⟨be, 0, none⟩ (.int .i64 0) = V at *
        refine leaves_cons (f := 45) (args := #[.pointer (some ⟨w.heap.size, 0, none⟩), .pointer (some ⟨ba, 0, none⟩), .pointer (some ⟨be, 0, none⟩)]) (by simp) (by simp [go_sem]) ?_
        refine (parse1_idle _ _ _ V).mono ?_
        rintro e u' w'' ⟨rfl, rfl, rfl⟩
        obtain ⟨hx6, ha6, he6, hF6⟩ := h5.out
        have q1 := cell_at hx6 (i := 0) rfl
        have q2 := cell_at hx6 (i := 1) rfl
        have q3 := cell_at hx6 (i := 2) rfl
        have q4 := cell_at ha6 (i := 0) rfl
        have q5 := cell_at he6 (i := 0) rfl
        clear r1 r2 r3 rf r4 rg r5 rh g0 g1 g2 g3 c0 c1 c2 c3
        refine ⟨.tuple #[.agg #[.slice DA x.doms.length Dc, .slice HA x.hard.length Hc, .slice SA x.soft.length Sc], .int .i64 0, .int .i64 0], ?_, ?_, ?_⟩
        · simp [results, Tryz.results18, go_sem, q1, q2, q3, q4, q5]
        · rw [HR.out]
          have hgs := HBW.out.size
          have hs := HS.out
          refine ⟨_, _, _, rfl, ⟨?_, ?_, ?_⟩, hx1, hx2, hx3⟩
          · exact ((hs.D.sl (by omega)).chg (by decide) hF6 (fun k hk e => by
              have hkg : g < k := by
                rcases hk with hk | hk
                · exact (hs.okg k hk).1
                · have := hs.D.own k hk; omega
              omega)).mono (fun k hk => by
              rcases hk with hk | hk
              · have := (hs.okg k hk).1; omega
              · have := hs.D.own k hk; omega)
          · exact ((hs.H.sl (by omega)).chg (by decide) hF6 (fun k hk e => by
              have hkg : g < k := by
                rcases hk with hk | hk
                · exact (hs.okg k hk).1
                · have := hs.H.own k hk; omega
              omega)).mono (fun k hk => by
              rcases hk with hk | hk
              · have := (hs.okg k hk).1; omega
              · have := hs.H.own k hk; omega)
          · exact ((hs.S.sl (by omega)).chg (by decide) hF6 (fun k hk e => by
              have hkg : g < k := by
                rcases hk with hk | hk
                · exact (hs.okg k hk).1
                · have := hs.S.own k hk; omega
              omega)).mono (fun k hk => by
              rcases hk with hk | hk
              · have := (hs.okg k hk).1; omega
              · have := hs.S.own k hk; omega)
        · have hbw2 := HB3.out.trans (HBW.out.mono (by omega) : Below w.heap.size W3 wr)
          exact hbw2.trans (hF6.below (B := w.heap.size) (fun k hk e => by omega) hbw2.size)
      · have h4b : (t5.kind != 4) = true := by simp [h4]
        rcases hsq : stmtQ x (t5 :: r5) with ⟨p, y⟩ | ⟨x2, r6⟩
        · have HR : Hid (parseP l = .error (p, y)) := Lib.hid (by rw [← HRES.out, HQ2.out]; exact stmtsQ_err h4 hsq)
          rw [hsq] at hst
          clear hsq h4
          go_wp2_with (go_at_call 46; refine hst.out.mono ?_; rintro e w' ⟨he, hg⟩; obtain rfl : e = wrongs p y := he; (have HBW6 := Lib.hid (HBW.out.trans hg)); clear hg)
          have hxw : w'.heap[w.heap.size]? = _ := (HBW6.out.block w.heap.size (by omega)).trans HX3.out
          have haw : w'.heap[ba]? = _ := (HBW6.out.block ba (by omega)).trans HA3.out
          have hew : w'.heap[be]? = _ := (HBW6.out.block be (by omega)).trans HE3.out
          refine leaves_cons (f := 45) (args := #[.pointer (some ⟨w.heap.size, 0, none⟩), .pointer (some ⟨ba, 0, none⟩), .pointer (some ⟨be, 0, none⟩)]) (by simp) (by simp [go_sem]) ?_
          refine (parse1_wrong w.heap.size ba be p y _ _ _ _ _ [] w' hxw haw hew (by omega) (by omega) (by omega)).mono ?_
          rintro e u' w'' ⟨rfl, rfl, hx6, ha6, he6, hF6⟩
          have q1 := cell_at hx6 (i := 0) rfl
          have q2 := cell_at hx6 (i := 1) rfl
          have q3 := cell_at hx6 (i := 2) rfl
          have q4 := cell_at ha6 (i := 0) rfl
          have q5 := cell_at he6 (i := 0) rfl
          clear g0 c0 c1 c2 c3
          refine ⟨.tuple #[.agg #[.slice none 0 0, .slice none 0 0, .slice none 0 0], .int .i64 p, .int .i64 y], ?_, ?_, ?_⟩
          · simp [results, Tryz.results18, go_sem, q1, q2, q3, q4, q5]
          · rw [HR.out]; rfl
          · have hgs := HBW.out.size
            have hbw2 := HB3.out.trans (HBW6.out.mono (by omega) : Below w.heap.size W3 w')
            exact hbw2.trans (hF6.below (B := w.heap.size) (fun k hk e => by omega) hbw2.size)
        · have HR : Hid (res = stmtsQ fu x2 r6) := Lib.hid (by rw [HQ2.out]; exact stmtsQ_go h4 hsq)
          have hgr := stmtQ_grow hsq hx1 hx2 hx3
          have hln := stmtQ_len hsq
          rw [hsq] at hst
          simp only [List.length_cons] at hfu hln hl5
          obtain ⟨f2, hf2⟩ : ∃ f2, fu = f2 + 1 := ⟨fu - 1, by omega⟩
          rw [hf2] at HR
          have HK2 := Lib.hid (show r6.length < gk by have := HK.out; simp only [List.length_cons] at this; omega)
          clear hsq h4
          go_wp2_with (go_at_call 46; refine hst.out.mono ?_; rintro e w' ⟨⟨rfl, hpa6⟩, hg⟩; (have HPA6 := Lib.hid hpa6); (have HBW6 := Lib.hid (HBW.out.trans hg)); clear hpa6 hg)
          go_roundg r6.length
          case rel => exact ⟨r6, x2, f2, rfl, HR.out, by omega, by omega, hgr.1, hgr.2.1, hgr.2.2, HPA6.out, HBW6.out⟩
          case measure => exact HK2.out
end Go.Proofs.YtoahaigfjfeopaaGreatDoor
