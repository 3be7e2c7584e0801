/- Rows of the call's own whose elements lead to finished data. Plain lemmas over the model; no program. -/
import Derived.Test.YtoahaigfjfeopaaGreatDoorBb
import Derived.Test.YtoahaigfjfeopaaGreatDoorWu
import Derived.Test.YtoahaigfjfeopaaGreatDoorWc
namespace Go.Proofs.YtoahaigfjfeopaaGreatDoor
open Go.RowKit

/-- A row of the call's own; what its elements lead to lies in blocks that 'ok' names, and no longer changes. -/
def OwnD {α : Type} (d : Kd α) (E : TypeId) (base : Nat) (ok : Nat → Prop) (v : Value) (xs : List α) (w : World) : Prop :=
  ∃ css : List (List Value), css.length = xs.length ∧ (∀ (j : Nat) (x : α) (cs : List Value), xs[j]? = some x → css[j]? = some cs → d.K w ok x cs) ∧ w.ownsRow base E d.sz v xs.length css.flatten ∧ (∀ k, v.ownBlock = some k → ¬ ok k)

theorem flat_at (sz : Nat) : ∀ (css : List (List Value)), (∀ cs ∈ css, cs.length = sz) → ∀ (j : Nat) (cs : List Value), css[j]? = some cs → ∀ i u, cs[i]? = some u → css.flatten[j * sz + i]? = some u
  | [], _, j, cs, h, _, _, _ => by simp at h
  | a :: r, hl, j, cs, h, i, u, hu => by
    rw [List.flatten_cons]
    cases j with
    | zero =>
      simp at h; subst h
      have hi : i < a.length := (List.getElem?_eq_some_iff.1 hu).1
      rw [Nat.zero_mul, Nat.zero_add, List.getElem?_append_left hi]; exact hu
    | succ j =>
      simp at h
      have ha : a.length = sz := hl a (List.mem_cons_self ..)
      rw [List.getElem?_append_right (by rw [ha, Nat.succ_mul]; omega), show (j + 1) * sz + i - a.length = j * sz + i by rw [ha, Nat.succ_mul]; omega]
      exact flat_at sz r (fun cs hc => hl cs (List.mem_cons_of_mem _ hc)) j cs h i u hu
theorem OwnD.nil {α : Type} (d : Kd α) (E : TypeId) (base : Nat) (ok : Nat → Prop) (w : World) : OwnD d E base ok (.slice none 0 0) [] w :=
  ⟨[], rfl, fun j x cs h => by simp at h, World.ownsRow_nil _ _ _ _, fun k h => by simp [Value.ownBlock] at h⟩
theorem OwnD.own {α : Type} {d : Kd α} {E : TypeId} {base : Nat} {ok : Nat → Prop} {v : Value} {xs : List α} {w : World} (h : OwnD d E base ok v xs w) : ∀ k, v.ownBlock = some k → base ≤ k ∧ k < w.heap.size ∧ ¬ ok k := by
  obtain ⟨css, _, _, h3, h4⟩ := h
  exact fun k hk => ⟨(h3.lt k hk).1, (h3.lt k hk).2, h4 k hk⟩
theorem OwnD.sl {α : Type} {d : Kd α} {E : TypeId} {base : Nat} {ok : Nat → Prop} {v : Value} {xs : List α} {w : World} (h : OwnD d E base ok v xs w) (hl : xs.length ≤ 140737488355328) :
    Sl d w (fun k => ok k ∨ v.ownBlock = some k) v xs := by
  obtain ⟨css, h1, h2, h3, h4⟩ := h
  have hsz : ∀ cs ∈ css, cs.length = d.sz := by
    intro cs hc
    obtain ⟨j, hj, rfl⟩ := List.mem_iff_getElem.1 hc
    have hx : xs[j]? = some xs[j] := List.getElem?_eq_getElem (by omega)
    exact d.len (h2 j _ _ hx (List.getElem?_eq_getElem hj))
  have H3 := h3
  rcases h3.2 with ⟨rfl, h0⟩ | ⟨g, cap, cur, rfl, hb, hg, hnc, hcm, hcs, ht⟩
  · obtain rfl : xs = [] := List.eq_nil_of_length_eq_zero h0
    exact ⟨none, 0, rfl, Nat.le_refl _, by simp, fun j x hx => by simp at hx⟩
  · refine ⟨_, cap, rfl, hnc, hl, fun j x hj => ?_⟩
    have hjl : j < xs.length := (List.getElem?_eq_some_iff.1 hj).1
    have hcj : css[j]? = some css[j] := List.getElem?_eq_getElem (by omega)
    refine ⟨g, 0, css[j], rfl, .inr rfl, d.mono (fun _ h => .inl h) (h2 j x _ hj hcj), fun i u hu => ?_⟩
    have hc := H3.cells (g := g) rfl (j * d.sz + i) u (flat_at d.sz css hsz j _ hcj i u hu)
    have e : (⟨g, 0, none⟩ : Addr).add (j * d.sz + i) = ⟨g, 0 + (j * d.sz + i), none⟩ := by unfold Addr.add; split <;> simp_all
    rw [e] at hc
    exact hc
theorem Kd.chg {α : Type} (d : Kd α) {S : Nat → Prop} {a b : World} {ok : Nat → Prop} {x : α} {cs : List Value} (h : d.K a ok x cs) (hc : Chg S a b) (hs : ∀ k, ok k → ¬ S k) : d.K b ok x cs :=
  d.mono (fun _ h => h.1) (d.move (fun k hk hl => hc.block k hl (hs k hk)) h)
theorem own_chg {E : TypeId} {base size n : Nat} {S : Nat → Prop} {v : Value} {xs : List Value} {a b : World} (h : a.ownsRow base E size v n xs) (hc : Chg S a b) (hs : ∀ k, v.ownBlock = some k → ¬ S k) : b.ownsRow base E size v n xs := by
  obtain ⟨h1, h2⟩ := h
  refine ⟨h1, ?_⟩
  rcases h2 with ⟨rfl, h0⟩ | ⟨g, cap, cur, rfl, hb, hg, r⟩
  · exact .inl ⟨rfl, h0⟩
  · exact .inr ⟨g, cap, cur, rfl, hb, hc.heap hg (hs g rfl), r⟩
theorem OwnD.chg {α : Type} {d : Kd α} {E : TypeId} {base : Nat} {ok S : Nat → Prop} {v : Value} {xs : List α} {a b : World} (h : OwnD d E base ok v xs a) (hc : Chg S a b) (ho : ∀ k, ok k → ¬ S k) (hs : ∀ k, v.ownBlock = some k → ¬ S k) : OwnD d E base ok v xs b := by
  obtain ⟨css, h1, h2, h3, h4⟩ := h
  exact ⟨css, h1, fun j x cs hx hj => d.chg (h2 j x cs hx hj) hc ho, own_chg h3 hc hs, h4⟩
theorem OwnD.mono {α : Type} {d : Kd α} {E : TypeId} {base : Nat} {ok ok' : Nat → Prop} {v : Value} {xs : List α} {w : World} (h : OwnD d E base ok v xs w) (ho : ∀ k, ok k → ok' k) (hv : ∀ k, v.ownBlock = some k → ¬ ok' k) : OwnD d E base ok' v xs w := by
  obtain ⟨css, h1, h2, h3, h4⟩ := h
  exact ⟨css, h1, fun j x cs hx hj => d.mono ho (h2 j x cs hx hj), h3, hv⟩
/-- One more, behind an append. 'a': ahead of the element's box; 'b': behind it; 'c': behind the append. -/
theorem OwnD.snoc {α : Type} {d : Kd α} {E : TypeId} {base : Nat} {ok : Nat → Prop} {v v' : Value} {xs : List α} {x : α} {css : List (List Value)} {cs : List Value} {b c : World}
    (h1 : css.length = xs.length) (h2 : ∀ (j : Nat) (x : α) (cs : List Value), xs[j]? = some x → css[j]? = some cs → d.K b ok x cs) (h4 : ∀ k, v.ownBlock = some k → ¬ ok k)
    (hx : d.K b ok x cs) (hg : b.grownBy c v.ownBlock) (ho : c.ownsRow base E d.sz v' (xs.length + 1) (css.flatten ++ cs)) (hat : v'.ownBlock = v.ownBlock ∨ v'.ownBlock = some b.heap.size) (hok : ∀ k, ok k → k < b.heap.size) :
    OwnD d E base ok v' (xs ++ [x]) c := by
  have hc := chg_of_grown hg
  have hk : ∀ k, ok k → ¬ v.ownBlock = some k := fun k hk e => h4 k e hk
  refine ⟨css ++ [cs], by simp [h1], fun j y ds hy hj => ?_, by rw [List.flatten_append, List.flatten_singleton, List.length_append]; exact ho, fun k hv hk' => ?_⟩
  · rcases Nat.lt_or_ge j xs.length with hlt | hge
    · rw [List.getElem?_append_left hlt] at hy
      rw [List.getElem?_append_left (by omega)] at hj
      exact d.chg (h2 j y ds hy hj) hc hk
    · rw [List.getElem?_append_right hge] at hy
      rw [List.getElem?_append_right (by omega)] at hj
      have hj0 : j - xs.length = 0 := by have := (List.getElem?_eq_some_iff.1 hy).1; simp at this; omega
      rw [hj0] at hy
      rw [h1, hj0] at hj
      simp at hy hj
      subst hy hj
      exact d.chg hx hc hk
  · rcases hat with e | e
    · exact h4 k (e ▸ hv) hk'
    · rw [e] at hv; injection hv with hv; have := hok k hk'; omega
/-- A row of numbers of the call's own, as data. -/
theorem OwnI.done {base B : Nat} {v : Value} {xs : List Int} {w : World} (h : OwnI base v xs w) (hl : xs.length ≤ 140737488355328) (hB : B ≤ base) : Sl (Kd.int .i64) w (fun k => B ≤ k ∧ k < w.heap.size) v xs := by
  have hs := (h.sl hl).move (w1 := w) (by decide) fun _ _ _ => rfl
  exact hs.mono fun k ⟨h1, h2⟩ => ⟨Nat.le_trans hB h1, h2⟩

/-- What the parser has told so far: its three rows, of blocks between its own and B; 'ok': the blocks of what is finished. -/
structure PSt (g B : Nat) (w : World) (x : Ins) (dv hv sv : Value) (ok : Nat → Prop) : Prop where
  D : OwnD kRow 41 (g + 1) ok dv x.doms w
  H : OwnD kCon 43 (g + 1) ok hv x.hard w
  S : OwnD kSft 47 (g + 1) ok sv x.soft w
  okg : ∀ k, ok k → g < k ∧ k < B
  bD : ∀ k, dv.ownBlock = some k → k < B
  bH : ∀ k, hv.ownBlock = some k → k < B
  bS : ∀ k, sv.ownBlock = some k → k < B
theorem PSt.chg {g B : Nat} {a b : World} {x : Ins} {dv hv sv : Value} {ok S : Nat → Prop} (h : PSt g B a x dv hv sv ok) (hc : Chg S a b) (hs : ∀ k, S k → k ≤ g ∨ B ≤ k) : PSt g B b x dv hv sv ok := by
  have ho : ∀ k, ok k → ¬ S k := fun k hk hsk => by have := h.okg k hk; have := hs k hsk; omega
  exact ⟨h.D.chg hc ho fun k hk hsk => by have := h.D.own k hk; have := h.bD k hk; have := hs k hsk; omega, h.H.chg hc ho fun k hk hsk => by have := h.H.own k hk; have := h.bH k hk; have := hs k hsk; omega,
    h.S.chg hc ho fun k hk hsk => by have := h.S.own k hk; have := h.bS k hk; have := hs k hsk; omega, h.okg, h.bD, h.bH, h.bS⟩
theorem PSt.later {g B B' : Nat} {w : World} {x : Ins} {dv hv sv : Value} {ok : Nat → Prop} (h : PSt g B w x dv hv sv ok) (hB : B ≤ B') : PSt g B' w x dv hv sv ok :=
  ⟨h.D, h.H, h.S, fun k hk => ⟨(h.okg k hk).1, Nat.lt_of_lt_of_le (h.okg k hk).2 hB⟩, fun k hk => Nat.lt_of_lt_of_le (h.bD k hk) hB, fun k hk => Nat.lt_of_lt_of_le (h.bH k hk) hB, fun k hk => Nat.lt_of_lt_of_le (h.bS k hk) hB⟩
/-- All blocks between B and B' are finished, too. -/
theorem PSt.fill {g B B' : Nat} {w : World} {x : Ins} {dv hv sv : Value} {ok : Nat → Prop} (h : PSt g B w x dv hv sv ok) (hB : B ≤ B') (hg : g < B) : PSt g B' w x dv hv sv (fun k => ok k ∨ (B ≤ k ∧ k < B')) :=
  ⟨h.D.mono (fun _ h => .inl h) fun k hk hn => by have h1 := (h.D.own k hk).2.2; have h2 := h.bD k hk; rcases hn with hn | hn; exact h1 hn; omega,
    h.H.mono (fun _ h => .inl h) fun k hk hn => by have h1 := (h.H.own k hk).2.2; have h2 := h.bH k hk; rcases hn with hn | hn; exact h1 hn; omega,
    h.S.mono (fun _ h => .inl h) fun k hk hn => by have h1 := (h.S.own k hk).2.2; have h2 := h.bS k hk; rcases hn with hn | hn; exact h1 hn; omega,
    fun k hk => by rcases hk with hk | hk; have := h.okg k hk; omega; omega,
    fun k hk => Nat.lt_of_lt_of_le (h.bD k hk) hB, fun k hk => Nat.lt_of_lt_of_le (h.bH k hk) hB, fun k hk => Nat.lt_of_lt_of_le (h.bS k hk) hB⟩
theorem own_apart {w : World} {b1 b2 : Nat} {e1 e2 : TypeId} {s1 s2 n1 n2 : Nat} {v1 v2 : Value} {x1 x2 : List Value} (h1 : w.ownsRow b1 e1 s1 v1 n1 x1) (h2 : w.ownsRow b2 e2 s2 v2 n2 x2) (hne : e1 ≠ e2) : ∀ k, v1.ownBlock = some k → v2.ownBlock ≠ some k := by
  intro k hk1 hk2
  rcases h1.2 with ⟨rfl, _⟩ | ⟨g, cap, cur, rfl, _, hg, _⟩
  · simp [Value.ownBlock] at hk1
  · rcases h2.2 with ⟨rfl, _⟩ | ⟨g', cap', cur', rfl, _, hg', _⟩
    · simp [Value.ownBlock] at hk2
    · simp [Value.ownBlock] at hk1 hk2
      subst hk1 hk2
      rw [hg] at hg'
      injection hg' with e
      injection e with _ e
      exact hne e
theorem OwnD.apart {α β : Type} {d1 : Kd α} {d2 : Kd β} {E1 E2 : TypeId} {b1 b2 : Nat} {ok1 ok2 : Nat → Prop} {v1 v2 : Value} {x1 : List α} {x2 : List β} {w : World} (h1 : OwnD d1 E1 b1 ok1 v1 x1 w) (h2 : OwnD d2 E2 b2 ok2 v2 x2 w) (hne : E1 ≠ E2) : ∀ k, v1.ownBlock = some k → v2.ownBlock ≠ some k := by
  obtain ⟨_, _, _, h1, _⟩ := h1
  obtain ⟨_, _, _, h2, _⟩ := h2
  exact own_apart h1 h2 hne
/-- The row's cells, and what they say. -/
def Cells {α : Type} (d : Kd α) (ok : Nat → Prop) (v : Value) (xs : List α) (w : World) (css : List (List Value)) : Prop :=
  css.length = xs.length ∧ (∀ (j : Nat) (x : α) (cs : List Value), xs[j]? = some x → css[j]? = some cs → d.K w ok x cs) ∧ (∀ k, v.ownBlock = some k → ¬ ok k)
theorem OwnD.open_ {α : Type} {d : Kd α} {E : TypeId} {base : Nat} {ok : Nat → Prop} {v : Value} {xs : List α} {w : World} (h : OwnD d E base ok v xs w) : ∃ css, Cells d ok v xs w css ∧ w.ownsRow base E d.sz v xs.length css.flatten := by
  obtain ⟨css, h1, h2, h3, h4⟩ := h
  exact ⟨css, ⟨h1, h2, h4⟩, h3⟩
theorem PSt.addD {g B : Nat} {b c : World} {x : Ins} {dv hv sv v' : Value} {ok : Nat → Prop} {css : List (List Value)} {d : List Int} {cs : List Value} (h : PSt g B b x dv hv sv ok) (hB : B ≤ b.heap.size) (hc : Cells kRow ok dv x.doms b css)
    (hx : kRow.K b ok d cs) (hg : b.grownBy c dv.ownBlock) (ho : c.ownsRow (g + 1) 41 1 v' (x.doms.length + 1) (css.flatten ++ cs)) (hat : v'.ownBlock = dv.ownBlock ∨ v'.ownBlock = some b.heap.size) :
    PSt g c.heap.size c { x with doms := x.doms ++ [d] } v' hv sv ok := by
  have hch := chg_of_grown hg
  have hBc : B ≤ c.heap.size := Nat.le_trans hB hg.size
  refine ⟨OwnD.snoc hc.1 hc.2.1 hc.2.2 hx hg ho hat (fun k hk => Nat.lt_of_lt_of_le (h.okg k hk).2 hB), h.H.chg hch (fun k hk e => hc.2.2 k e hk) (fun k hk e => h.D.apart h.H (by decide) k e hk), h.S.chg hch (fun k hk e => hc.2.2 k e hk) (fun k hk e => h.D.apart h.S (by decide) k e hk),
    fun k hk => ⟨(h.okg k hk).1, Nat.lt_of_lt_of_le (h.okg k hk).2 hBc⟩, fun k hk => (ho.lt k hk).2, fun k hk => Nat.lt_of_lt_of_le (h.bH k hk) hBc, fun k hk => Nat.lt_of_lt_of_le (h.bS k hk) hBc⟩
theorem PSt.addH {g B : Nat} {b c : World} {x : Ins} {dv hv sv v' : Value} {ok : Nat → Prop} {css : List (List Value)} {d : Con} {cs : List Value} (h : PSt g B b x dv hv sv ok) (hB : B ≤ b.heap.size) (hc : Cells kCon ok hv x.hard b css)
    (hx : kCon.K b ok d cs) (hg : b.grownBy c hv.ownBlock) (ho : c.ownsRow (g + 1) 43 4 v' (x.hard.length + 1) (css.flatten ++ cs)) (hat : v'.ownBlock = hv.ownBlock ∨ v'.ownBlock = some b.heap.size) :
    PSt g c.heap.size c { x with hard := x.hard ++ [d] } dv v' sv ok := by
  have hch := chg_of_grown hg
  have hBc : B ≤ c.heap.size := Nat.le_trans hB hg.size
  refine ⟨h.D.chg hch (fun k hk e => hc.2.2 k e hk) (fun k hk e => h.H.apart h.D (by decide) k e hk), OwnD.snoc hc.1 hc.2.1 hc.2.2 hx hg ho hat (fun k hk => Nat.lt_of_lt_of_le (h.okg k hk).2 hB), h.S.chg hch (fun k hk e => hc.2.2 k e hk) (fun k hk e => h.H.apart h.S (by decide) k e hk),
    fun k hk => ⟨(h.okg k hk).1, Nat.lt_of_lt_of_le (h.okg k hk).2 hBc⟩, fun k hk => Nat.lt_of_lt_of_le (h.bD k hk) hBc, fun k hk => (ho.lt k hk).2, fun k hk => Nat.lt_of_lt_of_le (h.bS k hk) hBc⟩
theorem PSt.addS {g B : Nat} {b c : World} {x : Ins} {dv hv sv v' : Value} {ok : Nat → Prop} {css : List (List Value)} {d : Sft} {cs : List Value} (h : PSt g B b x dv hv sv ok) (hB : B ≤ b.heap.size) (hc : Cells kSft ok sv x.soft b css)
    (hx : kSft.K b ok d cs) (hg : b.grownBy c sv.ownBlock) (ho : c.ownsRow (g + 1) 47 4 v' (x.soft.length + 1) (css.flatten ++ cs)) (hat : v'.ownBlock = sv.ownBlock ∨ v'.ownBlock = some b.heap.size) :
    PSt g c.heap.size c { x with soft := x.soft ++ [d] } dv hv v' ok := by
  have hch := chg_of_grown hg
  have hBc : B ≤ c.heap.size := Nat.le_trans hB hg.size
  refine ⟨h.D.chg hch (fun k hk e => hc.2.2 k e hk) (fun k hk e => h.S.apart h.D (by decide) k e hk), h.H.chg hch (fun k hk e => hc.2.2 k e hk) (fun k hk e => h.S.apart h.H (by decide) k e hk), OwnD.snoc hc.1 hc.2.1 hc.2.2 hx hg ho hat (fun k hk => Nat.lt_of_lt_of_le (h.okg k hk).2 hB),
    fun k hk => ⟨(h.okg k hk).1, Nat.lt_of_lt_of_le (h.okg k hk).2 hBc⟩, fun k hk => Nat.lt_of_lt_of_le (h.bD k hk) hBc, fun k hk => Nat.lt_of_lt_of_le (h.bH k hk) hBc, fun k hk => (ho.lt k hk).2⟩
/-- The parser: what is left, and what is told so far. -/
def PAll (g : Nat) (w : World) (ts : List Tok) (x : Ins) : Prop :=
  ∃ dv hv sv ok, PB g w ts dv hv sv ∧ PSt g w.heap.size w x dv hv sv ok ∧ Toks ts
theorem chg_setCell (W : World) (g i : Nat) (v : Value) : Chg (fun k => k = g) W (W.setCell ⟨g, i, none⟩ v) := (chg_of_grown (grown_setCell3 W g i v)).mono fun j _ hj => by injection hj with hj; exact hj.symm
theorem Chg.alloc0 (W : World) (o : Obj) (S : Nat → Prop) : Chg S W (W.alloc o) := chg_of_below (below_alloc1 W o) S
/-- A row of the parser's own block stored anew. -/
theorem PB.setD {g : Nat} {w : World} {ts : List Tok} {dv hv sv : Value} (h : PB g w ts dv hv sv) (v' : Value) : PB g (w.setCell ⟨g, 1, none⟩ v') ts v' hv sv := by
  obtain ⟨A, n, c, h, hs⟩ := h
  exact ⟨A, n, c, by simp [World.setCell, Array.getElem?_modify, h], hs.chg (by decide) (chg_setCell w g 1 v') (fun k hk e => by have : k < g := hk; omega)⟩
theorem PB.setH {g : Nat} {w : World} {ts : List Tok} {dv hv sv : Value} (h : PB g w ts dv hv sv) (v' : Value) : PB g (w.setCell ⟨g, 2, none⟩ v') ts dv v' sv := by
  obtain ⟨A, n, c, h, hs⟩ := h
  exact ⟨A, n, c, by simp [World.setCell, Array.getElem?_modify, h], hs.chg (by decide) (chg_setCell w g 2 v') (fun k hk e => by have : k < g := hk; omega)⟩
theorem PB.setS {g : Nat} {w : World} {ts : List Tok} {dv hv sv : Value} (h : PB g w ts dv hv sv) (v' : Value) : PB g (w.setCell ⟨g, 3, none⟩ v') ts dv hv v' := by
  obtain ⟨A, n, c, h, hs⟩ := h
  exact ⟨A, n, c, by simp [World.setCell, Array.getElem?_modify, h], hs.chg (by decide) (chg_setCell w g 3 v') (fun k hk e => by have : k < g := hk; omega)⟩
theorem hat_of {v : Value} {g H m cap : Nat} {b : World} (h : v.ownBlock = some g ∨ g = H) (hH : b.heap.size = H) : (Value.slice (some ⟨g, 0, none⟩) m cap).ownBlock = v.ownBlock ∨ (Value.slice (some ⟨g, 0, none⟩) m cap).ownBlock = some b.heap.size := by
  rcases h with h | h
  · exact .inl h.symm
  · exact .inr (by rw [hH, h]; rfl)
theorem PSt.cell {g B : Nat} {w : World} {x : Ins} {dv hv sv : Value} {ok : Nat → Prop} (h : PSt g B w x dv hv sv ok) (i : Nat) (v : Value) (hB : g < B) : PSt g (w.setCell ⟨g, i, none⟩ v).heap.size (w.setCell ⟨g, i, none⟩ v) x dv hv sv ok ∨ w.heap.size < B := by
  rcases Nat.lt_or_ge w.heap.size B with h1 | h1
  · exact .inr h1
  · exact .inl ((h.chg (chg_setCell w g i v) (fun k hk => by omega)).later (by rw [Go.Deep.nblk_setCell]; exact h1))
end Go.Proofs.YtoahaigfjfeopaaGreatDoor
