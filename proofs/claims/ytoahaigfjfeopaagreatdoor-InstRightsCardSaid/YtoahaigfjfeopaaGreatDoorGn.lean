/- Texts joined: Be Bf War Bg Wat. -/
import Derived.Test.YtoahaigfjfeopaaGreatDoorGd
import Derived.Test.YtoahaigfjfeopaaGreatDoorGg
import Derived.Test.YtoahaigfjfeopaaGreatDoorGf
import Derived.Deep.CutBlock
/- Regions that draw their order, walked in a picked order. Plain lemmas over the model; no program. -/
namespace Go.Proofs.YtoahaigfjfeopaaGreatDoor
open Go.RowKit

section
variable {P : Program} {ops : Array Oper} {Q : Exit → Act → World → Prop} {S : World → Prop}

/-- The operations in the picked order, each with its place and its mark. -/
def pickO (ops : Array Oper) : List (Nat × Bool) → List (Nat × Bool × Oper)
  | [] => []
  | p :: r => match ops[p.1]? with
    | some o => (p.1, p.2, o) :: pickO ops r
    | none => pickO ops r
def msOf (n : Nat) (ord : List (Nat × Bool)) : List Bool := (List.range n).map fun i => ord.contains (i, true)
/-- The picked order serves: each marked operation may be taken first, each other stands alone. -/
def lexOB (ops : Array Oper) : List (Nat × Bool) → Array Bool → Bool
  | [], listed => (Region.ready .any ops listed).isEmpty
  | (k, b) :: m, listed => (if b then (Region.ready .any ops listed).contains k && Region.free .any ops listed k else decide (Region.ready .any ops listed = [k])) && lexOB ops m (listed.setIfInBounds k true)
def wpLexO (P : Program) (ops : Array Oper) (Q : Exit → Act → World → Prop) (S : World → Prop) (ms : List Bool) : List (Nat × Bool × Oper) → Act → World → Prop
  | (_, true, o) :: rest, a, w => S w ∧ ∃ v, YieldsIf P ops S o v a ∧ wpLexO P ops Q S ms rest (a.put o.dst v) w
  | (k, false, o) :: rest, a, w =>
    if Region.wanted o (yielded ops a.tmps) then o.wp P a w (fun a' w' => (mustB ops ms k = true → S w') ∧ wpLexO P ops Q S ms rest a' w') Q ∨ (o.asks P a w ∧ LetsOut Q)
    else (mustB ops ms k = true → S w) ∧ wpLexO P ops Q S ms rest (a.put o.dst undef) w
  | [], a, w => Q .normal a w
theorem wpM_lexO {ms : List Bool} (hsel : Region.noSelect ops = true) (hQ : ∀ c (a : Act) d v w, Q (.panic c) (a.put d v) w → Q (.panic c) a w) :
    ∀ (m : List (Nat × Bool)) (listed : Array Bool) (a : Act) (w : World), (∀ p ∈ m, p.1 < ops.size ∧ (p.2 = true → ms.getD p.1 false = true)) → lexOB ops m listed = true → wpLexO P ops Q S ms (pickO ops m) a w →
      wpM P ops Q S (mustB ops ms) m.length listed a w
  | [], listed, a, w, _, hB, h => ⟨by simpa [lexOB] using hB, h⟩
  | (k, b) :: m, listed, a, w, hm, hB, h => by
    have hk := hm (k, b) (List.mem_cons_self ..)
    have hm' := fun p hp => hm p (List.mem_cons_of_mem _ hp)
    have h0 : ops[k]? = some ops[k] := Array.getElem?_eq_getElem hk.1
    simp only [pickO, h0] at h
    simp only [lexOB, Bool.and_eq_true] at hB
    obtain ⟨hb, hB'⟩ := hB
    cases b with
    | true =>
      simp only [if_true, Bool.and_eq_true] at hb
      obtain ⟨hS, v, hy, hr⟩ := h
      refine wpM_first h0 (Region.noSelect_spec hsel) (fun c a w => hQ c a _ v w) (fun j => ?_) m.length listed a w (Region.free_spec h0 hb.2) (by simpa using hb.1) hy hS (wpM_lexO hsel hQ m _ _ w hm' hB' hr)
      by_cases hmu : mustB ops ms j = true
      · exact .inl hmu
      · refine .inr ?_
        have hmu := Bool.eq_false_iff.2 hmu
        simp only [mustB, Bool.or_eq_false_iff, Bool.not_eq_false', List.all_eq_true, List.mem_range, Bool.or_eq_true, Bool.not_eq_true'] at hmu
        have hk2 := hk.2 rfl
        rcases hmu.2 k hk.1 with h | h
        · rw [hk2] at h; cases h
        · exact h
    | false =>
      simp only [Bool.false_eq_true, if_false, decide_eq_true_eq] at hb
      refine ⟨fun h1 => (by rw [hb] at h1; cases h1), fun i hi => ?_⟩
      rw [hb] at hi
      obtain rfl : i = k := by simpa using hi
      unfold wpOp
      simp only [h0]
      simp only [wpLexO] at h
      split
      · rename_i hw
        rw [if_pos hw] at h
        exact h.imp (Oper.wp_mono (fun a' w' h' => ⟨h'.1, wpM_lexO hsel hQ m _ a' w' hm' hB' h'.2⟩)) id
      · rename_i hw
        rw [if_neg hw] at h
        exact ⟨h.1, wpM_lexO hsel hQ m _ _ w hm' hB' h.2⟩
/-- A region that draws its order, walked in the order 'ord'; the marked ones only read, and may be taken first; S: what they read. -/
theorem wp_region_lexO {id : Nat} {a : Act} {w : World} {l : List Oper} (S : World → Prop) (ord : List (Nat × Bool)) (hm : P.follows .mixedOrders = true)
    (hB : (Region.noSelect l.toArray && (lexOB l.toArray ord (Array.replicate l.length false) && (decide (ord.length = l.length) && ord.all fun p => decide (p.1 < l.length)))) = true)
    (hQ : ∀ c (a : Act) d v w, Q (.panic c) (a.put d v) w → Q (.panic c) a w)
    (h : wpLexO P l.toArray Q S (msOf l.length ord) (pickO l.toArray ord) a { w with drawn := w.drawn + 1 }) : (Code.region id l.toArray true).wp P Q a w := by
  simp only [Bool.and_eq_true, decide_eq_true_eq, List.all_eq_true] at hB
  obtain ⟨h1, h2, h3, h4⟩ := hB
  refine wp_region_any hm (wpAny_of_M (S := S) (must := mustB l.toArray (msOf l.length ord)) _ _ _ _ ?_)
  have := wpM_lexO (S := S) (ms := msOf l.length ord) h1 hQ ord (Array.replicate l.length false) a { w with drawn := w.drawn + 1 } (fun p hp => ⟨by simpa using h4 p hp, fun hp2 => ?_⟩) h2 h
  · rw [h3] at this
    simpa using this
  · have hlt := h4 p hp
    simp only [msOf, List.getD_eq_getElem?_getD, List.getElem?_map, List.getElem?_range hlt, Option.map_some, Option.getD_some]
    rw [List.contains_iff_mem]
    obtain ⟨i, b⟩ := p
    simp only at hp2
    rw [← hp2]; exact hp
/-! ### The steps -/
variable {ms : List Bool} {k : Nat} {o : Oper} {rest : List (Nat × Bool × Oper)} {a : Act} {w : World}
theorem lexO_take {v : Value} (hS : S w) (hg : o.guard = none) (hy : ∀ w', S w' → (execOp a.eval o).run P w' = .ok (.value v) w') (h : ∀ K : Act → World → Prop, (∀ a w, wpLexO P ops Q S ms rest a w → K a w) → K (a.put o.dst v) w) : wpLexO P ops Q S ms ((k, true, o) :: rest) a w :=
  ⟨hS, v, .inl ⟨by simp [Region.wanted, hg], hy⟩, h _ fun _ _ h => h⟩
theorem lexO_step (hg : o.guard = none) (h : ∀ K : Act → World → Prop, (∀ a w, S w → wpLexO P ops Q S ms rest a w → K a w) → o.wp P a w K Q) : wpLexO P ops Q S ms ((k, false, o) :: rest) a w := by
  unfold wpLexO
  rw [if_pos (by simp [Region.wanted, hg])]
  exact .inl (h _ fun a' w' hS h' => ⟨fun _ => hS, h'⟩)
theorem lexO_free (hg : o.guard = none) (hm : mustB ops ms k = false) (h : ∀ K : Act → World → Prop, (∀ a w, wpLexO P ops Q S ms rest a w → K a w) → o.wp P a w K Q) : wpLexO P ops Q S ms ((k, false, o) :: rest) a w := by
  unfold wpLexO
  rw [if_pos (by simp [Region.wanted, hg])]
  exact .inl (h _ fun a' w' h' => ⟨fun h => (by rw [hm] at h; cases h), h'⟩)
theorem lexO_nil (h : Q .normal a w) : wpLexO P ops Q S ms [] a w := h
/-- What is left stands alone, one behind the other, and S is wanted no more: an ordinary list. -/
def restO (ops : Array Oper) (ms : List Bool) : List (Nat × Bool × Oper) → Bool
  | [] => true
  | (k, b, _) :: m => !b && !mustB ops ms k && restO ops ms m
theorem lexO_list : ∀ (l : List (Nat × Bool × Oper)) (a : Act) (w : World), restO ops ms l = true → wpList P ops Q (l.map (·.2.2)) a w → wpLexO P ops Q S ms l a w
  | [], _, _, _, h => h
  | (k, b, o) :: l, a, w, hB, h => by
    simp only [restO, Bool.and_eq_true, Bool.not_eq_true'] at hB
    obtain ⟨⟨rfl, hmu⟩, hB'⟩ := hB
    simp only [wpLexO]
    simp only [List.map_cons, wpList] at h
    split
    · rename_i hw
      rw [if_pos hw] at h
      exact h.imp (Oper.wp_mono fun a' w' h' => ⟨fun h => (by rw [hmu] at h; cases h), lexO_list l a' w' hB' h'⟩) id
    · rename_i hw
      rw [if_neg hw] at h
      exact ⟨fun h => (by rw [hmu] at h; cases h), lexO_list l _ w hB' h⟩
end
end Go.Proofs.YtoahaigfjfeopaaGreatDoor

/- Numbers appended to a new row: 'append([]int{}, l...)'. Plain lemmas over the model; no program. -/
namespace Go.Proofs.YtoahaigfjfeopaaGreatDoor
open Go.RowKit

theorem run_append_empty {P : Program} {w : World} (base : Nat) (t ty e : TypeId) (i : TypeInfo) (size : Nat) (ht : P.underlying t = some (.slice e)) (hi : P.info? e = some i)
    (v : Value) (n : Nat) (xs : List Value) (hown : w.ownsRow base e size v n xs) (A : Option Addr) (c : Nat) :
    (Builtin.append_ #[t, t] ty #[v, .slice A 0 c]).run P w = .ok v w := by
  rcases hown.2 with ⟨rfl, rfl⟩ | ⟨g, cap, cur, rfl, _, _, hnc, _⟩
  · cases A <;> simp [Builtin.append_, run_underlying ht, sizeOf, typeInfo, hi, Builtin.lenOf, Builtin.firstCells, loadCells, loadCellsFrom]
  · cases A <;> simp [Builtin.append_, run_underlying ht, sizeOf, typeInfo, hi, Builtin.lenOf, Builtin.firstCells, hnc, storeCells, loadCells, loadCellsFrom]
theorem wp_append_copy {P : Program} {w : World} {o : Oper} {a : Act} {K : Act → World → Prop} {Q : Exit → Act → World → Prop} (s x : Operand) (t : TypeId)
    (ho : o.op = .call { callee := .builtin .append, args := #[s, x], argTypes := #[t, t] })
    (base : Nat) (e : TypeId) (i : TypeInfo) (z : Value) (bytes : Nat) (ht : P.underlying t = some (.slice e)) (hi : P.info? e = some i) (hz : i.zero = some z)
    (hsize : i.size = 1) (hby : i.bytes = bytes) (hzs : z.cells.size = 1) (k : IntKind)
    (v : Value) (hs : a.eval s = v) (hown : w.ownsRow base e 1 v 0 [])
    (xs : List Int) (A : Option Addr) (m c : Nat) (hx : a.eval x = .slice A m c) (hm : m = xs.length) (hcells : xs ≠ [] → ∃ b o', A = some ⟨b, o', none⟩ ∧ ∀ j u, xs[j]? = some u → w.cell? ⟨b, o' + j, none⟩ = some (.int k u))
    (h63 : xs.length ≤ maxLen) (hbytes : xs.length * bytes ≤ 140737488355328) (hbase : base ≤ w.heap.size)
    (h : ∀ v' w', w'.ownsRow base e 1 v' xs.length (xs.map (Value.int k)) → w.grownBy w' v.ownBlock → (v'.ownBlock = v.ownBlock ∨ v'.ownBlock = some w.heap.size) → K (a.put o.dst v') w') : o.wp P a w K Q := by
  subst hm
  by_cases hn : xs = []
  · subst hn
    have hr := run_append_empty (P := P) base t o.type e i 1 ht hi v 0 [] hown A c
    unfold Oper.wp execOp
    simp only [ho, resolve, invoke, builtin, Sem.run_bind, Sem.run_pure, Result.andThen_ok, List.map_toArray, List.map_cons, List.map_nil, hs, hx, List.length_nil, hr]
    exact h v w hown ⟨rfl, rfl, rfl, Nat.le_refl _, fun _ _ _ => rfl⟩ (.inl rfl)
  · obtain ⟨b, o', rfl, hc⟩ := hcells hn
    have hp := List.length_pos_iff.2 hn
    refine wp_append_lies w s x t ho base e i z 1 bytes ht hi hz hsize hby hzs (by decide) v 0 [] hs hown ⟨b, o', none⟩ xs.length c (xs.map (Value.int k)) hx (by simp) (fun j u hu => ?_) (fun u hu => ?_) hp (by omega) (by rw [Nat.zero_add]; exact hbytes) hbase _ rfl ?_
    · rw [List.getElem?_map, Option.map_eq_some_iff] at hu
      obtain ⟨y, hy, rfl⟩ := hu
      have e : (⟨b, o', none⟩ : Addr).add j = ⟨b, o' + j, none⟩ := by unfold Addr.add; split <;> simp_all
      rw [e]
      exact hc j y hy
    · obtain ⟨y, _, rfl⟩ := List.mem_map.1 hu
      rfl
    · intro g cap w' h1 h2 h3 _
      rw [Nat.zero_add] at h1
      rw [Nat.zero_add]
      exact h _ w' h1 h2 (h3.imp (fun h => h.symm) (fun h => by rw [h]; rfl))
theorem wpList_append_copy {P : Program} {w : World} {ops : Array Oper} {rest : List Oper} {o : Oper} {a : Act} {Q : Exit → Act → World → Prop} (hgd : o.guard = none) (s x : Operand) (t : TypeId)
    (ho : o.op = .call { callee := .builtin .append, args := #[s, x], argTypes := #[t, t] })
    (base : Nat) (e : TypeId) (i : TypeInfo) (z : Value) (bytes : Nat) (ht : P.underlying t = some (.slice e)) (hi : P.info? e = some i) (hz : i.zero = some z)
    (hsize : i.size = 1) (hby : i.bytes = bytes) (hzs : z.cells.size = 1) (k : IntKind)
    (v : Value) (hs : a.eval s = v) (hown : w.ownsRow base e 1 v 0 [])
    (xs : List Int) (A : Option Addr) (m c : Nat) (hx : a.eval x = .slice A m c) (hm : m = xs.length) (hcells : xs ≠ [] → ∃ b o', A = some ⟨b, o', none⟩ ∧ ∀ j u, xs[j]? = some u → w.cell? ⟨b, o' + j, none⟩ = some (.int k u))
    (h63 : xs.length ≤ maxLen) (hbytes : xs.length * bytes ≤ 140737488355328) (hbase : base ≤ w.heap.size)
    (h : ∀ v' w', w'.ownsRow base e 1 v' xs.length (xs.map (Value.int k)) → w.grownBy w' v.ownBlock → (v'.ownBlock = v.ownBlock ∨ v'.ownBlock = some w.heap.size) → wpList P ops Q rest (a.put o.dst v') w') : wpList P ops Q (o :: rest) a w :=
  wpList_plain hgd fun _ hK => wp_append_copy s x t ho base e i z bytes ht hi hz hsize hby hzs k v hs hown xs A m c hx hm hcells h63 hbytes hbase fun v' w' h1 h2 h3 => hK _ _ (h v' w' h1 h2 h3)
/-- The first elements of a row of numbers, to be appended. -/
theorem Elems.taken {k : IntKind} {w : World} {ok : Nat → Prop} {A : Option Addr} {l : List Int} (h : Elems (Kd.int k) w ok A l) (m : Nat) : l.take m ≠ [] → ∃ b o', A = some ⟨b, o', none⟩ ∧ ∀ j u, (l.take m)[j]? = some u → w.cell? ⟨b, o' + j, none⟩ = some (.int k u) := by
  intro hn
  have hp := List.length_pos_iff.2 hn
  rw [List.length_take] at hp
  obtain ⟨b, o', rfl, _⟩ := h.num (j := 0) (by omega)
  refine ⟨b, o', rfl, fun j u hu => ?_⟩
  have hj : j < (l.take m).length := (List.getElem?_eq_some_iff.1 hu).1
  rw [List.length_take] at hj
  rw [List.getElem?_take_of_lt (by omega)] at hu
  obtain ⟨b2, o2, he, hc⟩ := h.num (j := j) (by omega)
  injection he with he
  injection he with e1 e2
  subst e1 e2
  rw [hc]
  rw [nth_get 0 l j (by omega)] at hu
  injection hu with hu
  rw [hu]
end Go.Proofs.YtoahaigfjfeopaaGreatDoor

/- arboristlaw06.rows, cut. -/
namespace Go.Proofs.YtoahaigfjfeopaaGreatDoor
open Go.RowKit
attribute [local irreducible] wpStill wpLex wpLexO Calls

def rowsC (ls : List (List Int)) : List (List Int) := (ls.take 30).map fun l => l.take 8
theorem rowsC_next (ls : List (List Int)) (k : Nat) (h : k < ls.length) : (ls.take (k + 1)).map (fun l => l.take 8) = (ls.take k).map (fun l => l.take 8) ++ [(nth [] ls k).take 8] := by
  rw [take_snoc [] ls k h, List.map_append]; rfl
def RowsRel (ls : List (List Int)) (w : World) (g : Nat) (v i : Value) (wr : World) : Prop :=
  ∃ k ok, i = .int .i64 (k : Nat) ∧ k ≤ ls.length ∧ k ≤ 30 ∧ OwnD kRow 41 w.heap.size ok v ((ls.take k).map fun l => l.take 8) wr ∧ (∀ j, ok j → w.heap.size ≤ j ∧ j < wr.heap.size) ∧ Below w.heap.size w wr ∧ g = 30 - k
set_option maxRecDepth 100000 in
set_option maxHeartbeats 4000000 in
theorem rows_cut (v : Value) (ls : List (List Int)) (okv : Nat → Prop) (w : World) (h : Sl kRow w okv v ls) :
    Calls Tryz.prog 21 #[v] w fun e w' => (∃ v', e = .returned v' ∧ Sl kRow w' (fun k => w.heap.size ≤ k ∧ k < w'.heap.size) v' (rowsC ls)) ∧ Below w.heap.size w w' := by
  have H := Lib.hid h
  obtain ⟨A, c, rfl, hc, hm, _⟩ := h
  go_enter Tryz.func21, Tryz.ntmps21
  go_wp2_with fail
  go_loopg [3, 4] 30 (fun g v i wr => RowsRel ls w g v i wr)
  case atStart => exact ⟨0, fun _ => False, rfl, Nat.zero_le _, Nat.zero_le _, OwnD.nil _ _ _ _ _, fun _ h => h.elim, Below.refl _ _, rfl⟩
  case round =>
    obtain ⟨k, ok, rfl, hk, hk30, ho, hok, hb, hg⟩ := hrel
    have HO := Lib.hid ho
    have HOK := Lib.hid hok
    have HB := Lib.hid hb
    have HG := Lib.hid hg
    clear ho hok hb hg
    by_cases hlt : k < ls.length ∧ k < 30
    · obtain ⟨hlt, hlt30⟩ := hlt
      obtain ⟨b, o, v2, rfl, hcell, hrow⟩ := H.out.elems.row hlt
      obtain ⟨A2, c2, rfl, hc2, hm2, hel2⟩ := hrow
      generalize hl2 : nth [] ls k = l2 at *
      generalize hxs : (ls.take k).map (fun l => l.take 8) = xs at *
      have hxl : xs.length ≤ 30 := by rw [← hxs, List.length_map, List.length_take]; omega
      have hbw0 : b < w.heap.size := lt_of_cell hcell
      have hdr := Below.drew (Below.refl wr.heap.size wr)
      have hb2 := below_next HB.out hdr
      have hcd := cell_kept hb2 hcell
      have HR2 := Lib.hid (Sl.below (v := .slice A2 l2.length c2) (by decide) ⟨A2, c2, rfl, hc2, hm2, hel2⟩ hb2)
      have HO2 := Lib.hid (HO.out.chg (chg_of_below hdr (fun _ => False)) (fun _ _ h => h) (fun _ _ h => h))
      have HB2 := Lib.hid hb2
      have HOK2 := Lib.hid (fun j hj => show w.heap.size ≤ j ∧ j < (World.drew wr).heap.size from HOK.out j hj)
      clear hel2 HO HB HOK hb2 hdr
      have hmn : min (l2.length : Int) 8 = ((min l2.length 8 : Nat) : Int) := by omega
      have hmc : min l2.length 8 ≤ c2 := by omega
      go_wp2_with fail
      refine wp_region_lexO (fun w' => w'.cell? ⟨b, o + k, none⟩ = some (.slice A2 l2.length c2)) [(0, true), (2, true), (3, true), (4, true), (5, true), (6, true), (7, true), (8, true), (9, true), (10, true), (11, true), (12, true), (1, false), (13, false), (14, false), (15, false), (16, false)] (by kernel_rfl) (by kernel_rfl) (fun c a d v w h => by cases d <;> exact h) ?_
      change wpLexO _ _ _ _ _ _ _ (World.drew wr)
      generalize World.drew wr = W at *
      repeat (first | (refine lexO_take hcd rfl (fun w' hw' => by (obtain y1 := hw'; (try go_simp); try rfl)) (fun K hK => ?_); go_simp; refine hK _ _ ?_; clear hK K))
      refine lexO_step rfl (fun K hK => ?_)
      go_wp2_with fail
      refine hK _ _ (cell_kept (below_alloc1 W (.cells #[] 3)) hcd) ?_
      clear hK K
      have ha1 : Chg (fun _ => False) W (W.alloc (.cells #[] 3)) := Chg.alloc0 W _ _
      have HO3 := Lib.hid (HO2.out.chg ha1 (fun _ _ h => h) (fun _ _ h => h))
      have hr3 := Sl.below (by decide) HR2.out (below_alloc1 W (.cells #[] 3))
      have hbz := HB2.out.size
      have how := World.ownsRow_lit (base := W.heap.size) (e := 3) (size := 1) W #[] 0 (Nat.le_refl _) (by decide) rfl
      obtain ⟨i0, hi, hz0, hz1, hz2⟩ := info_parts (show (Tryz.prog.info? 3).map (fun i => (i.zero, i.size, i.bytes)) = some (some (.int .i64 0), 1, 8) by kernel_rfl)
      refine lexO_step rfl (fun K hK => ?_)
      refine wp_append_copy (.tmp 16) (.tmp 27) 41 rfl W.heap.size 3 i0 _ 8 Tryz.underlying41 hi hz0 hz1 hz2 rfl .i64 (.slice (some ⟨W.heap.size, 0, none⟩) 0 0) rfl how (l2.take 8) A2 _ c2 rfl (by rw [List.length_take, Nat.min_comm]) (hr3.elems.taken 8) (by rw [List.length_take]; simp only [maxLen]; omega) (by rw [List.length_take]; omega) (by simp) ?_
      intro v3 w3 hown hgrow hat
      generalize hl8e : l2.take 8 = l8 at *
      have hg3 : Chg (fun j => W.heap.size = j) W w3 := ((Chg.alloc0 W (.cells #[] 3) (fun _ => False)).mono (fun _ _ h => h.elim)).trans (chg_of_grown hgrow) (fun j _ h => by simpa [Value.ownBlock] using h)
      have hb3 := below_next HB2.out (hg3.below (fun j hj e => by omega) (Nat.le_refl _))
      have hc3 := cell_kept hb3 hcell
      have hs3 : W.heap.size + 1 ≤ w3.heap.size := by have := hgrow.size; simpa using this
      have HB3 := Lib.hid hb3
      have HO4 := Lib.hid (HO2.out.chg hg3 (fun j hj e => by have := (HOK2.out j hj).2; omega) (fun j hj e => by have := (HO2.out.own j hj).2.1; omega))
      have hown3 : OwnI W.heap.size v3 l8 w3 := hown
      have hl8 : l8.length ≤ 8 := by rw [← hl8e, List.length_take]; omega
      obtain ⟨A3, c3, rfl, hc33, hm3, hel3⟩ := hown3.sl (by omega)
      have HW3 := Lib.hid hown3
      clear hat hgrow hown hown3 hel3 how hr3 hg3
      refine hK _ _ hc3 ?_
      clear hK K
      refine lexO_step rfl (fun K hK => ?_)
      go_wp2_with fail
      refine hK _ _ (cell_kept (below_alloc1 w3 (.cells #[.slice A3 l8.length c3] 41)) hc3) ?_
      clear hK K
      have HO5 := Lib.hid ((HO4.out.chg (Chg.alloc0 w3 (.cells #[.slice A3 l8.length c3] 41) (fun _ => False)) (fun _ _ h => h) (fun _ _ h => h)).mono (ok' := fun j => ok j ∨ (W.heap.size ≤ j ∧ j < w3.heap.size)) (fun _ h => .inl h) (fun j hj h => by
        have h1 := HO2.out.own j hj
        rcases h with h | h
        · exact h1.2.2 h
        · omega))
      have HX : Hid (kRow.K (w3.alloc (.cells #[.slice A3 l8.length c3] 41)) (fun j => ok j ∨ (W.heap.size ≤ j ∧ j < w3.heap.size)) l8 [.slice A3 l8.length c3]) := Lib.hid ⟨_, rfl, ((HW3.out.done (by omega) (Nat.le_refl _)).below (by decide) (below_alloc1 _ _)).mono fun j h => Or.inr h⟩
      obtain ⟨DA, Dc, rfl, _, _, _⟩ := HO5.out.sl (by omega)
      obtain ⟨css, hc1, hc2⟩ := HO5.out.open_
      have HC1 := Lib.hid hc1
      have HC2 := Lib.hid hc2
      obtain ⟨iR, hiR, hR0, hR1, hR2⟩ := info_parts (show (Tryz.prog.info? 41).map (fun i => (i.zero, i.size, i.bytes)) = some (some (.slice none 0 0), 1, 24) by kernel_rfl)
      refine lexO_step rfl (fun K hK => ?_)
      refine wp_append_lies _ (.tmp 15) (.tmp 29) 22 rfl w.heap.size 41 iR _ 1 24 Tryz.underlying22 hiR hR0 hR1 hR2 rfl (by decide) (.slice DA xs.length Dc) xs.length css.flatten rfl HC2.out ⟨_, 0, none⟩ 1 1 [.slice A3 l8.length c3] rfl rfl (World.news_of_block (cs := #[.slice A3 l8.length c3]) (t := 41) (fr := (0, 0)) (heap_alloc_new w3 _)) (by simp [Value.oneCell']) (by decide) (by simp only [maxLen]; omega) (by omega) (by simp; omega) (w3.heap.size + 1) (by simp) ?_
      intro kb cap w5 hown hgrow hat hlt5
      have hs5 := OwnD.snoc HC1.out.1 HC1.out.2.1 HC1.out.2.2 HX.out hgrow hown (hat_of hat (by simp)) (fun j hj => by
        rcases hj with hj | hj
        · have := (HOK2.out j hj).2; simp; omega
        · simp; omega)
      have hb5 := HB3.out.trans (((Chg.alloc0 w3 (.cells #[.slice A3 l8.length c3] 41) (fun _ => False)).mono (T := fun j => (Value.slice DA xs.length Dc).ownBlock = some j) (fun _ _ h => h.elim)).trans (chg_of_grown hgrow) (fun _ _ h => h) |>.below (B := w.heap.size) (fun j hj e => by have := (HO2.out.own j e).1; omega) (by omega))
      refine hK _ _ (cell_kept hb5 hcell) ?_
      clear hK K
      refine lexO_step rfl (fun K hK => ?_)
      go_wp2_with fail
      refine hK _ _ (cell_kept hb5 hcell) ?_
      clear hK K
      refine lexO_nil ?_
      have hz5 : w3.heap.size ≤ w5.heap.size := by have := hgrow.size; simp at this; omega
      have HS5 := Lib.hid hs5
      have HB5 := Lib.hid hb5
      clear hs5 hown hgrow hat HC1 HC2 HX HO5 HO4 HO3 HO2 HB3 HB2 hb3 hb5
      go_wp2
      go_roundg (30 - (k + 1))
      case rel =>
        refine ⟨k + 1, fun j => ok j ∨ (W.heap.size ≤ j ∧ j < w3.heap.size), by go_num, by omega, by omega, ?_, fun j hj => ?_, HB5.out, rfl⟩
        · rw [rowsC_next ls k hlt, hxs, hl2, hl8e]
          exact HS5.out
        · rcases hj with hj | hj
          · have := HOK2.out j hj; omega
          · omega
      case measure => have := HG.out; omega
    · have hend : (ls.take k).map (fun l => l.take 8) = rowsC ls := by
        unfold rowsC
        congr 1
        by_cases h1 : k < ls.length
        · rw [show k = 30 by omega]
        · rw [List.take_of_length_le (by omega), List.take_of_length_le (by omega)]
      have hs := HO.out.sl (by rw [List.length_map, List.length_take]; omega)
      rw [hend] at hs
      have HS := Lib.hid (hs.mono fun j hj => by
        rcases hj with hj | hj
        · exact HOK.out j hj
        · have := HO.out.own j hj; exact ⟨this.1, this.2.1⟩)
      clear hs hend HO HOK
      by_cases h1 : k < ls.length
      · have h30 : k = 30 := by omega
        subst h30
        go_wp2
        go_ret
        exact ⟨⟨_, rfl, HS.out⟩, HB.out⟩
      · have hk1 : k = ls.length := by omega
        go_wp2
        go_ret
        exact ⟨⟨_, rfl, HS.out⟩, HB.out⟩
end Go.Proofs.YtoahaigfjfeopaaGreatDoor

/- arboristlaw06.cut: what memory holds while it runs. -/
namespace Go.Proofs.YtoahaigfjfeopaaGreatDoor
open Go.RowKit

def cutD (d : List Int) : List Int := d.take 20
def cutC (c : Con) : Con := ⟨c.kind, c.scope.take 8, rowsC c.rows, c.args.take 10⟩
def cutS (s : Sft) : Sft := ⟨s.scope.take 8, rowsC s.rows, s.costs.take 30, s.dflt⟩
def cutI (x : Ins) : Ins := ⟨(x.doms.take 42).map cutD, (x.hard.take 10).map cutC, (x.soft.take 10).map cutS⟩
theorem map_next {α β : Type} (z : α) (f : α → β) (l : List α) (k : Nat) (h : k < l.length) : (l.take (k + 1)).map f = (l.take k).map f ++ [f (nth z l k)] := by
  rw [take_snoc z l k h, List.map_append]; rfl
/-- The call's boxes: the argument's, the result's, what is told; and what it leads to. -/
structure CutAt (w wr : World) (vD vH vS : Value) (y : Ins) (dv hv sv : Value) (ok : Nat → Prop) : Prop where
  arg : wr.heap[w.heap.size]? = some (.cells #[vD, vH, vS] 26)
  res : wr.heap[w.heap.size + 1]? = some (.cells #[.slice none 0 0, .slice none 0 0, .slice none 0 0] 26)
  out : wr.heap[w.heap.size + 2]? = some (.cells #[dv, hv, sv] 26)
  st : PSt (w.heap.size + 2) wr.heap.size wr y dv hv sv ok
  bel : Below w.heap.size w wr
theorem CutAt.lt {w wr : World} {vD vH vS : Value} {y : Ins} {dv hv sv : Value} {ok : Nat → Prop} (h : CutAt w wr vD vH vS y dv hv sv ok) : w.heap.size + 2 < wr.heap.size := (Array.getElem?_eq_some_iff.1 h.out).1
theorem CutAt.start (w : World) (vD vH vS : Value) :
    CutAt w (((w.alloc (.cells #[vD, vH, vS] 26)).alloc (.cells #[.slice none 0 0, .slice none 0 0, .slice none 0 0] 26)).alloc (.cells #[.slice none 0 0, .slice none 0 0, .slice none 0 0] 26)) vD vH vS ⟨[], [], []⟩ (.slice none 0 0) (.slice none 0 0) (.slice none 0 0) (fun _ => False) where
  arg := block_kept (below_alloc1 _ _) (block_kept (below_alloc1 _ _) (heap_alloc_new w _))
  res := block_kept (below_alloc1 _ _) (by have := heap_alloc_new (w.alloc (.cells #[vD, vH, vS] 26)) (.cells #[.slice none 0 0, .slice none 0 0, .slice none 0 0] 26); simpa using this)
  out := by have := heap_alloc_new ((w.alloc (.cells #[vD, vH, vS] 26)).alloc (.cells #[.slice none 0 0, .slice none 0 0, .slice none 0 0] 26)) (.cells #[.slice none 0 0, .slice none 0 0, .slice none 0 0] 26); simpa using this
  st := ⟨OwnD.nil _ _ _ _ _, OwnD.nil _ _ _ _ _, OwnD.nil _ _ _ _ _, fun _ h => h.elim, fun k h => by simp [Value.ownBlock] at h, fun k h => by simp [Value.ownBlock] at h, fun k h => by simp [Value.ownBlock] at h⟩
  bel := below_next (below_next (below_alloc1 _ _) (below_alloc1 _ _)) (below_alloc1 _ _)
section
variable {w a b c : World} {vD vH vS : Value} {y : Ins} {dv hv sv : Value} {ok : Nat → Prop}
theorem CutAt.below (h : CutAt w a vD vH vS y dv hv sv ok) (hb : Below a.heap.size a b) : CutAt w b vD vH vS y dv hv sv ok :=
  ⟨block_kept hb h.arg, block_kept hb h.res, block_kept hb h.out, (h.st.chg (chg_of_below hb (fun _ => False)) (fun _ h => h.elim)).later hb.size, below_next h.bel hb⟩
/-- Only new blocks have changed since. -/
theorem CutAt.chg (h : CutAt w a vD vH vS y dv hv sv ok) {S : Nat → Prop} (hb : Chg S a b) (hs : ∀ k, S k → a.heap.size ≤ k) : CutAt w b vD vH vS y dv hv sv ok :=
  h.below (hb.below (fun k hk e => by have := hs k e; omega) (Nat.le_refl _))
theorem CutAt.filled (h : CutAt w a vD vH vS y dv hv sv ok) (hb : Below a.heap.size a b) (n : Nat) (hn : a.heap.size ≤ n) : PSt (w.heap.size + 2) n b y dv hv sv (fun j => ok j ∨ (a.heap.size ≤ j ∧ j < n)) :=
  (h.st.chg (chg_of_below hb (fun _ => False)) (fun _ h => h.elim)).fill hn h.lt
theorem CutAt.openD (h : CutAt w a vD vH vS y dv hv sv ok) (hb : Below a.heap.size a b) (n : Nat) (hn : a.heap.size ≤ n) : ∃ css, Cells kRow (fun j => ok j ∨ (a.heap.size ≤ j ∧ j < n)) dv y.doms b css ∧ b.ownsRow (w.heap.size + 3) 41 1 dv y.doms.length css.flatten := (h.filled hb n hn).D.open_
theorem CutAt.openH (h : CutAt w a vD vH vS y dv hv sv ok) (hb : Below a.heap.size a b) (n : Nat) (hn : a.heap.size ≤ n) : ∃ css, Cells kCon (fun j => ok j ∨ (a.heap.size ≤ j ∧ j < n)) hv y.hard b css ∧ b.ownsRow (w.heap.size + 3) 43 4 hv y.hard.length css.flatten := (h.filled hb n hn).H.open_
theorem CutAt.openS (h : CutAt w a vD vH vS y dv hv sv ok) (hb : Below a.heap.size a b) (n : Nat) (hn : a.heap.size ≤ n) : ∃ css, Cells kSft (fun j => ok j ∨ (a.heap.size ≤ j ∧ j < n)) sv y.soft b css ∧ b.ownsRow (w.heap.size + 3) 47 4 sv y.soft.length css.flatten := (h.filled hb n hn).S.open_
/-- The boxes and all else, behind an append to one of the rows, and the store of it. -/
theorem CutAt.store (h : CutAt w a vD vH vS y dv hv sv ok) (hb : Below a.heap.size a b) {v : Value} (hv' : ∀ k, v.ownBlock = some k → w.heap.size + 3 ≤ k) (hg : b.grownBy c v.ownBlock) (i : Nat) (v' : Value) :
    (c.setCell ⟨w.heap.size + 2, i, none⟩ v').heap[w.heap.size]? = some (.cells #[vD, vH, vS] 26) ∧ (c.setCell ⟨w.heap.size + 2, i, none⟩ v').heap[w.heap.size + 1]? = some (.cells #[.slice none 0 0, .slice none 0 0, .slice none 0 0] 26) ∧
      c.heap[w.heap.size + 2]? = some (.cells #[dv, hv, sv] 26) ∧ Below w.heap.size w (c.setCell ⟨w.heap.size + 2, i, none⟩ v') := by
  have hbb := h.below hb
  have hc := chg_of_grown hg
  have hs := chg_setCell c (w.heap.size + 2) i v'
  have hlt := h.bel.size
  refine ⟨hs.heap (hc.heap hbb.arg (fun e => by have := hv' _ e; omega)) (by omega), hs.heap (hc.heap hbb.res (fun e => by have := hv' _ e; omega)) (by omega), hc.heap hbb.out (fun e => by have := hv' _ e; omega), ?_⟩
  exact hbb.bel.trans (((hc.mono (T := fun k => v.ownBlock = some k ∨ k = w.heap.size + 2) fun _ _ h => .inl h).trans (hs.mono fun _ _ h => .inr h) (fun _ _ h => h)).below (fun k hk e => by
    rcases e with e | e
    · have := hv' _ e; omega
    · omega) (by have := hbb.lt; omega))
theorem CutAt.pushD (h : CutAt w a vD vH vS y dv hv sv ok) (hb : Below a.heap.size a b) (n : Nat) (hn : a.heap.size ≤ n) (hnb : n ≤ b.heap.size) {css : List (List Value)} {d : List Int} {cs : List Value} {v' : Value}
    (hc : Cells kRow (fun j => ok j ∨ (a.heap.size ≤ j ∧ j < n)) dv y.doms b css) (hx : kRow.K b (fun j => ok j ∨ (a.heap.size ≤ j ∧ j < n)) d cs) (hg : b.grownBy c dv.ownBlock)
    (ho : c.ownsRow (w.heap.size + 3) 41 1 v' (y.doms.length + 1) (css.flatten ++ cs)) (hat : v'.ownBlock = dv.ownBlock ∨ v'.ownBlock = some b.heap.size) :
    CutAt w (c.setCell ⟨w.heap.size + 2, 0, none⟩ v') vD vH vS { y with doms := y.doms ++ [d] } v' hv sv (fun j => ok j ∨ (a.heap.size ≤ j ∧ j < n)) := by
  obtain ⟨h1, h2, h3, h4⟩ := h.store hb (v := dv) (fun k hk => (h.st.D.own k hk).1) hg 0 v'
  refine ⟨h1, h2, by simp [World.setCell, Array.getElem?_modify, h3], ?_, h4⟩
  exact (((h.filled hb n hn).addD hnb hc hx hg ho hat).chg (chg_setCell c _ 0 v') (fun k hk => .inl (Nat.le_of_eq hk))).later (by rw [Go.Deep.nblk_setCell]; exact Nat.le_refl _)
theorem CutAt.pushH (h : CutAt w a vD vH vS y dv hv sv ok) (hb : Below a.heap.size a b) (n : Nat) (hn : a.heap.size ≤ n) (hnb : n ≤ b.heap.size) {css : List (List Value)} {d : Con} {cs : List Value} {v' : Value}
    (hc : Cells kCon (fun j => ok j ∨ (a.heap.size ≤ j ∧ j < n)) hv y.hard b css) (hx : kCon.K b (fun j => ok j ∨ (a.heap.size ≤ j ∧ j < n)) d cs) (hg : b.grownBy c hv.ownBlock)
    (ho : c.ownsRow (w.heap.size + 3) 43 4 v' (y.hard.length + 1) (css.flatten ++ cs)) (hat : v'.ownBlock = hv.ownBlock ∨ v'.ownBlock = some b.heap.size) :
    CutAt w (c.setCell ⟨w.heap.size + 2, 1, none⟩ v') vD vH vS { y with hard := y.hard ++ [d] } dv v' sv (fun j => ok j ∨ (a.heap.size ≤ j ∧ j < n)) := by
  obtain ⟨h1, h2, h3, h4⟩ := h.store hb (v := hv) (fun k hk => (h.st.H.own k hk).1) hg 1 v'
  refine ⟨h1, h2, by simp [World.setCell, Array.getElem?_modify, h3], ?_, h4⟩
  exact (((h.filled hb n hn).addH hnb hc hx hg ho hat).chg (chg_setCell c _ 1 v') (fun k hk => .inl (Nat.le_of_eq hk))).later (by rw [Go.Deep.nblk_setCell]; exact Nat.le_refl _)
theorem CutAt.pushS (h : CutAt w a vD vH vS y dv hv sv ok) (hb : Below a.heap.size a b) (n : Nat) (hn : a.heap.size ≤ n) (hnb : n ≤ b.heap.size) {css : List (List Value)} {d : Sft} {cs : List Value} {v' : Value}
    (hc : Cells kSft (fun j => ok j ∨ (a.heap.size ≤ j ∧ j < n)) sv y.soft b css) (hx : kSft.K b (fun j => ok j ∨ (a.heap.size ≤ j ∧ j < n)) d cs) (hg : b.grownBy c sv.ownBlock)
    (ho : c.ownsRow (w.heap.size + 3) 47 4 v' (y.soft.length + 1) (css.flatten ++ cs)) (hat : v'.ownBlock = sv.ownBlock ∨ v'.ownBlock = some b.heap.size) :
    CutAt w (c.setCell ⟨w.heap.size + 2, 2, none⟩ v') vD vH vS { y with soft := y.soft ++ [d] } dv hv v' (fun j => ok j ∨ (a.heap.size ≤ j ∧ j < n)) := by
  obtain ⟨h1, h2, h3, h4⟩ := h.store hb (v := sv) (fun k hk => (h.st.S.own k hk).1) hg 2 v'
  refine ⟨h1, h2, by simp [World.setCell, Array.getElem?_modify, h3], ?_, h4⟩
  exact (((h.filled hb n hn).addS hnb hc hx hg ho hat).chg (chg_setCell c _ 2 v') (fun k hk => .inl (Nat.le_of_eq hk))).later (by rw [Go.Deep.nblk_setCell]; exact Nat.le_refl _)
theorem InsAt.chg {a b : World} {ok S : Nat → Prop} {dv hv sv : Value} {y : Ins} (h : InsAt a ok dv hv sv y) (hc : Chg S a b) (hs : ∀ k, ok k → ¬ S k) : InsAt b ok dv hv sv y :=
  ⟨Sl.chg (by decide) h.1 hc hs, Sl.chg (by decide) h.2.1 hc hs, Sl.chg (by decide) h.2.2 hc hs⟩
/-- At the end. -/
theorem CutAt.inst (h : CutAt w a vD vH vS y dv hv sv ok) (h1 : y.doms.length ≤ 140737488355328) (h2 : y.hard.length ≤ 140737488355328) (h3 : y.soft.length ≤ 140737488355328) : InsAt a (fun k => w.heap.size + 3 ≤ k ∧ k < a.heap.size) dv hv sv y := by
  have hk : ∀ k, ok k → w.heap.size + 3 ≤ k ∧ k < a.heap.size := fun k hk => by have := h.st.okg k hk; omega
  refine ⟨(h.st.D.sl h1).mono fun k hh => ?_, (h.st.H.sl h2).mono fun k hh => ?_, (h.st.S.sl h3).mono fun k hh => ?_⟩
  · rcases hh with hh | hh
    · exact hk k hh
    · have := h.st.D.own k hh; omega
  · rcases hh with hh | hh
    · exact hk k hh
    · have := h.st.H.own k hh; omega
  · rcases hh with hh | hh
    · exact hk k hh
    · have := h.st.S.own k hh; omega
end
end Go.Proofs.YtoahaigfjfeopaaGreatDoor

/- arboristlaw06.cut. -/
namespace Go.Proofs.YtoahaigfjfeopaaGreatDoor
open Go.RowKit
attribute [local irreducible] wpStill wpLex wpLexO Calls

theorem sl_of_own {e : TypeId} {base : Nat} {v : Value} {xs : List Int} {w : World} (h : w.ownsRow base e 1 v xs.length (xs.map (Value.int .i64))) (hl : xs.length ≤ 140737488355328) : Sl (Kd.int .i64) w (fun k => base ≤ k ∧ k < w.heap.size) v xs := by
  have hlt := fun k hk => h.lt k hk
  rcases h.2 with ⟨rfl, h0⟩ | ⟨g, cap, cur, rfl, hb, hg, hnc, hcm, hcs, ht⟩
  · obtain rfl : xs = [] := List.eq_nil_of_length_eq_zero h0
    exact sl_nil _ _
  · refine ⟨_, cap, rfl, hnc, hl, fun j x hj => ⟨g, 0, [.int .i64 x], rfl, ⟨hb, (hlt g rfl).2⟩, rfl, fun i u hu => ?_⟩⟩
    obtain rfl : i = 0 := by have := (List.getElem?_eq_some_iff.1 hu).1; simpa using this
    have hc := h.cells (g := g) rfl j (.int .i64 x) (by rw [List.getElem?_map, hj]; rfl)
    have e : (⟨g, 0, none⟩ : Addr).add j = ⟨g, 0 + j, none⟩ := by unfold Addr.add; split <;> simp_all
    rw [e] at hc
    simp at hu; subst hu
    show w.cell? ⟨g, 0 + (j * 1 + 0), none⟩ = _
    rw [Nat.mul_one, Nat.add_zero]
    exact hc
theorem Sl.mv {α : Type} {d : Kd α} (hz : 0 < d.sz) {a b : World} {n : Nat} {v : Value} {xs : List α} {S : Nat → Prop} (h : Sl d a (fun j => n ≤ j ∧ j < a.heap.size) v xs) (hc : Chg S a b) (hs : ∀ j, n ≤ j → ¬ S j) : Sl d b (fun j => n ≤ j ∧ j < b.heap.size) v xs :=
  (Sl.chg hz h hc (fun j hj => hs j hj.1)).mono fun _ hj => ⟨hj.1, Nat.lt_of_lt_of_le hj.2 hc.size⟩
theorem Sl.low {α : Type} {d : Kd α} {a : World} {m n : Nat} {v : Value} {xs : List α} (h : Sl d a (fun j => m ≤ j ∧ j < a.heap.size) v xs) (hn : n ≤ m) : Sl d a (fun j => n ≤ j ∧ j < a.heap.size) v xs := h.mono fun _ hj => ⟨Nat.le_trans hn hj.1, hj.2⟩
def CutD (w : World) (vD vH vS : Value) (x : Ins) (g : Nat) (i : Value) (wr : World) : Prop :=
  ∃ k dv ok, i = .int .i64 (k : Nat) ∧ k ≤ x.doms.length ∧ k ≤ 42 ∧ CutAt w wr vD vH vS ⟨(x.doms.take k).map cutD, [], []⟩ dv (.slice none 0 0) (.slice none 0 0) ok ∧ g = 42 - k
def CutH (w : World) (vD vH vS : Value) (x : Ins) (xd : List (List Int)) (dv : Value) (g : Nat) (i : Value) (wr : World) : Prop :=
  ∃ k hv ok, i = .int .i64 (k : Nat) ∧ k ≤ x.hard.length ∧ k ≤ 10 ∧ CutAt w wr vD vH vS ⟨xd, (x.hard.take k).map cutC, []⟩ dv hv (.slice none 0 0) ok ∧ g = 10 - k
def CutS (w : World) (vD vH vS : Value) (x : Ins) (xd : List (List Int)) (xh : List Con) (dv hv : Value) (g : Nat) (i : Value) (wr : World) : Prop :=
  ∃ k sv ok, i = .int .i64 (k : Nat) ∧ k ≤ x.soft.length ∧ k ≤ 10 ∧ CutAt w wr vD vH vS ⟨xd, xh, (x.soft.take k).map cutS⟩ dv hv sv ok ∧ g = 10 - k
set_option maxRecDepth 100000 in
set_option maxHeartbeats 8000000 in
theorem cut_any (vD vH vS : Value) (x : Ins) (okv : Nat → Prop) (w : World) (hx : InsAt w okv vD vH vS x) :
    Calls Tryz.prog 12 #[.agg #[vD, vH, vS]] w fun e w' => (∃ dv hv sv, e = .returned (.agg #[dv, hv, sv]) ∧ InsAt w' (fun k => w.heap.size ≤ k ∧ k < w'.heap.size) dv hv sv (cutI x)) ∧ Below w.heap.size w w' := by
  have HD := Lib.hid hx.1
  have HH := Lib.hid hx.2.1
  have HS := Lib.hid hx.2.2
  obtain ⟨⟨AD, cD, rfl, hcD, hmD, _⟩, ⟨AH, cH, rfl, hcH, hmH, _⟩, ⟨AS, cS, rfl, hcS, hmS, _⟩⟩ := hx
  have HC0 := Lib.hid (CutAt.start w (.slice AD x.doms.length cD) (.slice AH x.hard.length cH) (.slice AS x.soft.length cS))
  go_enter Tryz.func12, Tryz.ntmps12
  go_upto_block 0 with fail
  go_cut [4] from 10 to 40 (fun _ wx => ∃ dv ok, CutAt w wx (.slice AD x.doms.length cD) (.slice AH x.hard.length cH) (.slice AS x.soft.length cS) ⟨(x.doms.take 42).map cutD, [], []⟩ dv (.slice none 0 0) (.slice none 0 0) ok)
  case first =>
    go_wp2_with fail
    go_loopg [4] 42 (fun g i wr => CutD w (.slice AD x.doms.length cD) (.slice AH x.hard.length cH) (.slice AS x.soft.length cS) x g i wr)
    case atStart => exact ⟨0, _, _, rfl, Nat.zero_le _, Nat.zero_le _, HC0.out, rfl⟩
    case round =>
      clear HC0
      obtain ⟨k, dv, ok, rfl, hk, hk42, hc, hg⟩ := hrel
      have HG := Lib.hid hg
      have HC := Lib.hid hc
      have x0 := cell_at hc.arg (i := 0) rfl
      have hgw := hc.lt
      clear hg hc
      by_cases hlt : k < x.doms.length ∧ k < 42
      · obtain ⟨hlt, hlt42⟩ := hlt
        obtain ⟨b, o, v2, rfl, hcell, hrow⟩ := HD.out.elems.row hlt
        obtain ⟨A2, c2, rfl, hc2, hm2, hel2⟩ := hrow
        generalize hl2 : nth [] x.doms k = l2 at *
        have hxl : ((x.doms.take k).map cutD).length = k := by rw [List.length_map, List.length_take]; omega
        have hnx := map_next [] cutD x.doms k hlt
        rw [hl2] at hnx
        generalize (x.doms.take k).map cutD = xs at *
        have hdr := Below.drew (Below.refl wr.heap.size wr)
        have hb2 := below_next HC.out.bel hdr
        have hcd := cell_kept hb2 hcell
        have HR2 := Lib.hid (Sl.below (v := .slice A2 l2.length c2) (by decide) ⟨A2, c2, rfl, hc2, hm2, hel2⟩ hb2)
        have HC2 := Lib.hid (HC.out.below hdr)
        have HNX := Lib.hid hnx
        have hmn : min (l2.length : Int) 20 = ((min l2.length 20 : Nat) : Int) := by omega
        have hmc : min l2.length 20 ≤ c2 := by omega
        clear hel2 hb2 hdr hnx HC
        go_wp2_with fail
        refine wp_region_lexO (fun w' => w'.cell? ⟨w.heap.size + 1 + 1, 0, none⟩ = some dv ∧ w'.cell? ⟨w.heap.size, 0, none⟩ = some (.slice (some ⟨b, o, none⟩) x.doms.length cD) ∧ w'.cell? ⟨b, o + k, none⟩ = some (.slice A2 l2.length c2)) [(0, true), (1, true), (3, true), (4, true), (5, true), (6, true), (7, true), (8, true), (9, true), (10, true), (11, true), (12, true), (13, true), (14, true), (15, true), (2, false), (16, false), (17, false), (18, false), (19, false), (20, false)] (by kernel_rfl) (by kernel_rfl) (fun c a d v w h => by cases d <;> exact h) ?_
        change wpLexO _ _ _ _ _ _ _ (World.drew wr)
        generalize World.drew wr = W at *
        have z0 : W.cell? ⟨w.heap.size + 1 + 1, 0, none⟩ = some dv := cell_at HC2.out.out (i := 0) rfl
        have z1 : W.cell? ⟨w.heap.size, 0, none⟩ = some (.slice (some ⟨b, o, none⟩) x.doms.length cD) := cell_at HC2.out.arg (i := 0) rfl
        repeat (first | (refine lexO_take ⟨z0, z1, hcd⟩ rfl (fun w' hw' => by (obtain ⟨y0, y1, y2⟩ := hw'; (try go_simp); try rfl)) (fun K hK => ?_); go_simp; refine hK _ _ ?_; clear hK K))
        refine lexO_step rfl (fun K hK => ?_)
        go_wp2_with fail
        have hal := below_alloc1 W (.cells #[] 3)
        refine hK _ _ ⟨cell_kept hal z0, cell_kept hal z1, cell_kept hal hcd⟩ ?_
        clear hK K hal
        have hr3 := Sl.below (by decide) HR2.out (below_alloc1 W (.cells #[] 3))
        have hbz := HC2.out.lt
        have how := World.ownsRow_lit (base := W.heap.size) (e := 3) (size := 1) W #[] 0 (Nat.le_refl _) (by decide) rfl
        obtain ⟨i0, hi, hz0, hz1, hz2⟩ := info_parts (show (Tryz.prog.info? 3).map (fun i => (i.zero, i.size, i.bytes)) = some (some (.int .i64 0), 1, 8) by kernel_rfl)
        refine lexO_step rfl (fun K hK => ?_)
        refine wp_append_copy (.tmp 23) (.tmp 36) 41 rfl W.heap.size 3 i0 _ 8 Tryz.underlying41 hi hz0 hz1 hz2 rfl .i64 (.slice (some ⟨W.heap.size, 0, none⟩) 0 0) rfl how (l2.take 20) A2 _ c2 rfl (by rw [List.length_take, Nat.min_comm]) (hr3.elems.taken 20) (by rw [List.length_take]; simp only [maxLen]; omega) (by rw [List.length_take]; omega) (by simp) ?_
        intro v3 w3 hown hgrow hat
        have hl8e : cutD l2 = l2.take 20 := rfl
        generalize l2.take 20 = l8 at *
        have hg3 : Chg (fun j => W.heap.size = j) W w3 := ((Chg.alloc0 W (.cells #[] 3) (fun _ => False)).mono (fun _ _ h => h.elim)).trans (chg_of_grown hgrow) (fun j _ h => by simpa [Value.ownBlock] using h)
        have hb3 : Below W.heap.size W w3 := hg3.below (fun j hj e => by omega) (Nat.le_refl _)
        have HB3 := Lib.hid hb3
        have hown3 : OwnI W.heap.size v3 l8 w3 := hown
        have hl8 : l8.length ≤ 20 := by rw [← hl8e, cutD, List.length_take]; omega
        obtain ⟨A3, c3, rfl, hc33, hm3, _⟩ := hown3.sl (by omega)
        have HW3 := Lib.hid hown3
        clear hat hgrow hown hown3 how hr3 hg3
        refine hK _ _ ⟨cell_kept hb3 z0, cell_kept hb3 z1, cell_kept hb3 hcd⟩ ?_
        clear hK K
        refine lexO_step rfl (fun K hK => ?_)
        go_wp2_with fail
        have hb4 := below_next hb3 (below_alloc1 w3 (.cells #[.slice A3 l8.length c3] 41))
        refine hK _ _ ⟨cell_kept hb4 z0, cell_kept hb4 z1, cell_kept hb4 hcd⟩ ?_
        clear hK K
        obtain ⟨css, hc1, hc2⟩ := HC2.out.openD hb4 w3.heap.size hb3.size
        obtain ⟨DA, Dc, rfl, _, _, _⟩ := HC2.out.st.D.sl (by simp only; omega)
        have HC1 := Lib.hid hc1
        have HCC := Lib.hid hc2
        have HB4 := Lib.hid hb4
        have HX : Hid (kRow.K (w3.alloc (.cells #[.slice A3 l8.length c3] 41)) (fun j => ok j ∨ (W.heap.size ≤ j ∧ j < w3.heap.size)) l8 [.slice A3 l8.length c3]) := Lib.hid ⟨_, rfl, ((HW3.out.done (by omega) (Nat.le_refl _)).below (by decide) (below_alloc1 _ _)).mono fun j h => Or.inr h⟩
        clear hc1 hc2 hb4 hb3
        obtain ⟨iR, hiR, hR0, hR1, hR2⟩ := info_parts (show (Tryz.prog.info? 41).map (fun i => (i.zero, i.size, i.bytes)) = some (some (.slice none 0 0), 1, 24) by kernel_rfl)
        refine lexO_step rfl (fun K hK => ?_)
        refine wp_append_lies _ (.tmp 22) (.tmp 38) 22 rfl (w.heap.size + 3) 41 iR _ 1 24 Tryz.underlying22 hiR hR0 hR1 hR2 rfl (by decide) (.slice DA xs.length Dc) xs.length css.flatten rfl HCC.out ⟨_, 0, none⟩ 1 1 [.slice A3 l8.length c3] rfl rfl (World.news_of_block (cs := #[.slice A3 l8.length c3]) (t := 41) (fr := (0, 0)) (heap_alloc_new w3 _)) (by simp [Value.oneCell']) (by decide) (by simp only [maxLen]; omega) (by omega) (by have := HB3.out.size; simp; omega) (w3.heap.size + 1) (by simp) ?_
        intro kb cap w5 hown hgrow hat hlt5
        have hP := HC2.out.pushD HB4.out w3.heap.size HB3.out.size (by simp) HC1.out HX.out hgrow hown (hat_of hat (by simp))
        simp only [hxl] at hP
        have HP := Lib.hid hP
        have hk5 : ∀ j, j < w.heap.size + 3 → w5.heap[j]? = W.heap[j]? := fun j hj => ((chg_of_grown hgrow).block j (by have := HB4.out.size; omega) (fun e => by have := (HC2.out.st.D.own j e).1; omega)).trans (HB4.out.block j (by omega))
        have hbw : b < w.heap.size := lt_of_cell hcell
        have y0 := (World.cell?_of_block (w := W) (a := ⟨w.heap.size + 1 + 1, 0, none⟩) (hk5 _ (by show w.heap.size + 1 + 1 < _; omega))).trans z0
        have y1 := (World.cell?_of_block (w := W) (a := ⟨w.heap.size, 0, none⟩) (hk5 _ (by show w.heap.size < _; omega))).trans z1
        have y2 := (World.cell?_of_block (w := W) (a := ⟨b, o + k, none⟩) (hk5 _ (by show b < _; omega))).trans hcd
        have yf := Lib.frozen_of_heap ((hk5 (w.heap.size + 1 + 1) (by omega)).trans HC2.out.out) 0
        refine hK _ _ ⟨y0, y1, y2⟩ ?_
        clear hK K hP hown hgrow hat HC1 HCC HX HB4 HB3 HR2 HW3 hk5
        refine lexO_step rfl (fun K hK => ?_)
        go_wp2_with fail
        refine hK _ _ ⟨y0, y1, y2⟩ ?_
        clear hK K
        refine lexO_free rfl (by kernel_rfl) (fun K hK => ?_)
        go_wp2_with fail
        refine lexO_nil ?_
        clear y0 y1 y2 yf z0 z1 hcd HC2
        go_wp2
        go_roundg (42 - (k + 1))
        case rel => exact ⟨k + 1, _, _, by go_num, by omega, by omega, by rw [HNX.out, hl8e]; exact HP.out, rfl⟩
        case measure => have := HG.out; omega
      · have hend : (x.doms.take k).map cutD = (x.doms.take 42).map cutD := by
          by_cases h1 : k < x.doms.length
          · rw [show k = 42 by omega]
          · rw [List.take_of_length_le (by omega), List.take_of_length_le (by omega)]
        rw [hend] at HC
        by_cases h1 : k < x.doms.length
        · have h42 : k = 42 := by omega
          subst h42
          go_wp2_with fail
          go_meet
          case rel => exact ⟨_, _, HC.out⟩
        · have hk1 : k = x.doms.length := by omega
          subst hk1
          go_wp2_with fail
          go_meet
          case rel => exact ⟨_, _, HC.out⟩
  case rest =>
  obtain ⟨dv, okd, hc0⟩ := hcut
  have HC0 := Lib.hid hc0
  have hxd : ((x.doms.take 42).map cutD).length ≤ 42 := by rw [List.length_map, List.length_take]; omega
  generalize hxde : (x.doms.take 42).map cutD = xd at *
  clear hc0 HD
  go_upto_block 2 with fail
  go_cut [5, 6] from 41 to 86 (fun _ _ wx => ∃ hv ok, CutAt w wx (.slice AD x.doms.length cD) (.slice AH x.hard.length cH) (.slice AS x.soft.length cS) ⟨xd, (x.hard.take 10).map cutC, []⟩ dv hv (.slice none 0 0) ok)
  case first =>
    go_wp2_with fail
    go_loopg [5, 6] 10 (fun g i _ wr => CutH w (.slice AD x.doms.length cD) (.slice AH x.hard.length cH) (.slice AS x.soft.length cS) x xd dv g i wr)
    case atStart => exact ⟨0, _, _, rfl, Nat.zero_le _, Nat.zero_le _, HC0.out, rfl⟩
    case round =>
      clear HC0
      obtain ⟨k, hv, ok, rfl, hk, hk10, hc, hg⟩ := hrel
      have HG := Lib.hid hg
      have HC := Lib.hid hc
      have x1 := cell_at hc.arg (i := 1) rfl
      have hgw := hc.lt
      have hbw := hc.bel
      clear hg hc
      by_cases hlt : k < x.hard.length ∧ k < 10
      · obtain ⟨hlt, hlt10⟩ := hlt
        obtain ⟨b, o, cs, rfl, _, hK, hcell⟩ := HH.out.elems k (nth default x.hard k) (nth_get default x.hard k hlt)
        obtain ⟨vs, vr, va, rfl, e1, e2, e3⟩ := kCon_cells hK
        have f0 := cell_kept hbw (hcell 0 _ rfl)
        have f1 := cell_kept hbw (hcell 1 _ rfl)
        have f2 := cell_kept hbw (hcell 2 _ rfl)
        have f3 := cell_kept hbw (hcell 3 _ rfl)
        simp only [show kCon.sz = 4 from rfl, Nat.add_zero, ← Nat.add_assoc] at f0 f1 f2 f3
        have HSl1 := Lib.hid e1
        have HSl2 := Lib.hid e3
        have HSr := Lib.hid e2
        obtain ⟨As1, Cs1, rfl, hcs1, hms1, _⟩ := e1
        obtain ⟨As2, Cs2, rfl, hcs2, hms2, _⟩ := e3
        obtain ⟨Asr, Csr, rfl, _, _, _⟩ := e2
        have hxl : ((x.hard.take k).map cutC).length = k := by rw [List.length_map, List.length_take]; omega
        have hnx := map_next default cutC x.hard k hlt
        generalize nth default x.hard k = c at *
        generalize (x.hard.take k).map cutC = xs at *
        have hxm : xs.length ≤ 10 := by omega
        clear hxl
        have HNX := Lib.hid hnx
        clear hnx hcell hK
        go_upto_region 10 with fail
        have HBV1 := Lib.hid (below_alloc1 wr (.cells #[.int .i64 c.kind, .slice As1 c.scope.length Cs1, .slice Asr c.rows.length Csr, .slice As2 c.args.length Cs2] 43))
        have HCo1 : Hid (ConAt wr.heap.size _ _ _ _ _) := Lib.hid (heap_alloc_new wr (.cells #[.int .i64 c.kind, .slice As1 c.scope.length Cs1, .slice Asr c.rows.length Csr, .slice As2 c.args.length Cs2] 43))
        have HZ1 : Hid ((wr.alloc (.cells #[.int .i64 c.kind, .slice As1 c.scope.length Cs1, .slice Asr c.rows.length Csr, .slice As2 c.args.length Cs2] 43)).heap.size = wr.heap.size + 1) := Lib.hid (by simp)
        generalize wr.alloc (.cells #[.int .i64 c.kind, .slice As1 c.scope.length Cs1, .slice Asr c.rows.length Csr, .slice As2 c.args.length Cs2] 43) = V1 at *
        have y1 : (V1.alloc (.cells #[] 3)).cell? ⟨wr.heap.size, 1, none⟩ = some (.slice As1 c.scope.length Cs1) := cell_at (block_kept (below_alloc1 V1 _) HCo1.out) (i := 1) rfl
        have hsl1 := Sl.below (by decide) (Sl.below (by decide) HSl1.out (below_next HC.out.bel HBV1.out)) (below_alloc1 V1 (.cells #[] 3))
        have how1 := World.ownsRow_lit (base := V1.heap.size) (e := 3) (size := 1) V1 #[] 0 (Nat.le_refl _) (by decide) rfl
        obtain ⟨i1, hi1, ha1, hb1, hc1⟩ := info_parts (show (Tryz.prog.info? 3).map (fun i => (i.zero, i.size, i.bytes)) = some (some (.int .i64 0), 1, 8) by kernel_rfl)
        have hmn1 : min ((c.scope).length : Int) 8 = ((min (c.scope).length 8 : Nat) : Int) := by omega
        have hmc1 : min (c.scope).length 8 ≤ Cs1 := by omega
        obtain ⟨q1, hq1⟩ : ∃ q, (c.scope).take 8 = q := ⟨_, rfl⟩
        have HQ1 := Lib.hid hq1
        have HT1 : Hid (q1 ≠ [] → ∃ b o', As1 = some ⟨b, o', none⟩ ∧ ∀ j u, q1[j]? = some u → (V1.alloc (.cells #[] 3)).cell? ⟨b, o' + j, none⟩ = some (.int .i64 u)) := Lib.hid (by rw [← hq1]; exact hsl1.elems.taken 8)
        have hq11 : min (c.scope).length 8 = q1.length := by rw [← hq1, List.length_take, Nat.min_comm]
        have hq21 : q1.length ≤ 8 := by omega
        clear hq1
        go_wp2_with (at_builtin; refine wpList_append_copy rfl (.tmp 57) (.tmp 64) 41 rfl V1.heap.size 3 i1 _ 8 Tryz.underlying41 hi1 ha1 hb1 hc1 rfl .i64 (.slice (some ⟨V1.heap.size, 0, none⟩) 0 0) rfl how1 q1 As1 _ Cs1 rfl (by first | rfl | exact hq11) HT1.out (by simp only [maxLen]; omega) (by omega) (by simp) ?_)
        intro v1 w2 hown hgrow hat
        have hg1 : Chg (fun j => V1.heap.size = j) V1 w2 := ((Chg.alloc0 V1 (.cells #[] 3) (fun _ => False)).mono (fun _ _ h => h.elim)).trans (chg_of_grown hgrow) (fun j _ h => by simpa [Value.ownBlock] using h)
        have hbn1 : Below V1.heap.size V1 w2 := hg1.below (fun j hj e => by omega) (Nat.le_refl _)
        have HN1 := Lib.hid hbn1
        have hv1 := sl_of_own (xs := q1) hown (by omega)
        have HV1 := Lib.hid hv1
        obtain ⟨Ar1, cr1, rfl, _, _, _⟩ := hv1
        clear hown hgrow hat hg1 hsl1 how1 hmn1 hmc1 HT1 hq11
        have hco2 := block_kept HN1.out HCo1.out
        have yf := Lib.frozen_of_heap hco2 1
        have yc := cell_at hco2 (i := 1) rfl
        go_upto_region 11 with fail
        have HS1 := Lib.hid (Sl.mv (by decide) (HV1.out.low (n := wr.heap.size + 1) (by have := HZ1.out; omega)) (chg_setCell w2 wr.heap.size 1 (.slice Ar1 q1.length cr1)) (fun j hj e => by omega))
        have HBV3 := Lib.hid ((HBV1.out.trans (HN1.out.mono HBV1.out.size)).trans ((chg_setCell w2 wr.heap.size 1 (.slice Ar1 q1.length cr1)).below (B := wr.heap.size) (fun j hj e => by omega) (Nat.le_trans HBV1.out.size HN1.out.size)))
        have HZ3 : Hid (wr.heap.size + 1 ≤ (w2.setCell ⟨wr.heap.size, 1, none⟩ (.slice Ar1 q1.length cr1)).heap.size) := Lib.hid (by rw [Go.Deep.nblk_setCell]; have := HN1.out.size; have := HZ1.out; omega)
        have HCo3 : Hid (ConAt wr.heap.size (w2.setCell ⟨wr.heap.size, 1, none⟩ (.slice Ar1 q1.length cr1)) c.kind (.slice Ar1 q1.length cr1) (.slice Asr c.rows.length Csr) (.slice As2 c.args.length Cs2)) := Lib.hid (by unfold ConAt; simp [World.setCell, Array.getElem?_modify, hco2])
        clear hco2 yf yc HV1 HN1 HCo1 HBV1 HZ1 y1
        generalize w2.setCell ⟨wr.heap.size, 1, none⟩ (.slice Ar1 q1.length cr1) = V3 at *
        have y3 : (V3.alloc (.cells #[] 3)).cell? ⟨wr.heap.size, 3, none⟩ = some (.slice As2 c.args.length Cs2) := cell_at (block_kept (below_alloc1 V3 _) HCo3.out) (i := 3) rfl
        have hsl2 := Sl.below (by decide) (Sl.below (by decide) HSl2.out (below_next HC.out.bel HBV3.out)) (below_alloc1 V3 (.cells #[] 3))
        have how2 := World.ownsRow_lit (base := V3.heap.size) (e := 3) (size := 1) V3 #[] 0 (Nat.le_refl _) (by decide) rfl
        obtain ⟨i2, hi2, ha2, hb2, hc2⟩ := info_parts (show (Tryz.prog.info? 3).map (fun i => (i.zero, i.size, i.bytes)) = some (some (.int .i64 0), 1, 8) by kernel_rfl)
        have hmn2 : min ((c.args).length : Int) 10 = ((min (c.args).length 10 : Nat) : Int) := by omega
        have hmc2 : min (c.args).length 10 ≤ Cs2 := by omega
        obtain ⟨q2, hq2⟩ : ∃ q, (c.args).take 10 = q := ⟨_, rfl⟩
        have HQ2 := Lib.hid hq2
        have HT2 : Hid (q2 ≠ [] → ∃ b o', As2 = some ⟨b, o', none⟩ ∧ ∀ j u, q2[j]? = some u → (V3.alloc (.cells #[] 3)).cell? ⟨b, o' + j, none⟩ = some (.int .i64 u)) := Lib.hid (by rw [← hq2]; exact hsl2.elems.taken 10)
        have hq12 : min (c.args).length 10 = q2.length := by rw [← hq2, List.length_take, Nat.min_comm]
        have hq22 : q2.length ≤ 10 := by omega
        clear hq2
        go_wp2_with (at_builtin; refine wpList_append_copy rfl (.tmp 67) (.tmp 74) 41 rfl V3.heap.size 3 i2 _ 8 Tryz.underlying41 hi2 ha2 hb2 hc2 rfl .i64 (.slice (some ⟨V3.heap.size, 0, none⟩) 0 0) rfl how2 q2 As2 _ Cs2 rfl (by first | rfl | exact hq12) HT2.out (by simp only [maxLen]; omega) (by omega) (by simp) ?_)
        intro v2 w4 hown hgrow hat
        have hg2 : Chg (fun j => V3.heap.size = j) V3 w4 := ((Chg.alloc0 V3 (.cells #[] 3) (fun _ => False)).mono (fun _ _ h => h.elim)).trans (chg_of_grown hgrow) (fun j _ h => by simpa [Value.ownBlock] using h)
        have hbn2 : Below V3.heap.size V3 w4 := hg2.below (fun j hj e => by omega) (Nat.le_refl _)
        have HN2 := Lib.hid hbn2
        have hv2 := sl_of_own (xs := q2) hown (by omega)
        have HV2 := Lib.hid hv2
        obtain ⟨Ar2, cr2, rfl, _, _, _⟩ := hv2
        clear hown hgrow hat hg2 hsl2 how2 hmn2 hmc2 HT2 hq12
        have hco4 := block_kept HN2.out HCo3.out
        have yf := Lib.frozen_of_heap hco4 3
        have yc := cell_at hco4 (i := 3) rfl
        go_upto_region 12 with fail
        have HS2 := Lib.hid (Sl.mv (by decide) (Sl.mv (by decide) HS1.out (chg_of_below HN2.out (fun _ => False)) (fun j hj e => e)) (chg_setCell w4 wr.heap.size 3 (.slice Ar2 q2.length cr2)) (fun j hj e => by omega))
        have HA2 := Lib.hid (Sl.mv (by decide) (HV2.out.low (n := wr.heap.size + 1) HZ3.out) (chg_setCell w4 wr.heap.size 3 (.slice Ar2 q2.length cr2)) (fun j hj e => by omega))
        have HBV5 := Lib.hid ((HBV3.out.trans (HN2.out.mono HBV3.out.size)).trans ((chg_setCell w4 wr.heap.size 3 (.slice Ar2 q2.length cr2)).below (B := wr.heap.size) (fun j hj e => by omega) (Nat.le_trans HBV3.out.size HN2.out.size)))
        have HZ5 : Hid (wr.heap.size + 1 ≤ (w4.setCell ⟨wr.heap.size, 3, none⟩ (.slice Ar2 q2.length cr2)).heap.size) := Lib.hid (by rw [Go.Deep.nblk_setCell]; have := HN2.out.size; have := HZ3.out; omega)
        have HCo5 : Hid (ConAt wr.heap.size (w4.setCell ⟨wr.heap.size, 3, none⟩ (.slice Ar2 q2.length cr2)) c.kind (.slice Ar1 q1.length cr1) (.slice Asr c.rows.length Csr) (.slice Ar2 q2.length cr2)) := Lib.hid (by unfold ConAt; simp [World.setCell, Array.getElem?_modify, hco4])
        clear hco4 yf yc HV2 HN2 HCo3 HBV3 HZ3 y3 HS1
        generalize w4.setCell ⟨wr.heap.size, 3, none⟩ (.slice Ar2 q2.length cr2) = V5 at *
        have y5 := cell_at HCo5.out (i := 2) rfl
        have HRC := Lib.hid (rows_cut (.slice Asr c.rows.length Csr) c.rows okv V5 (Sl.below (by decide) HSr.out (below_next HC.out.bel HBV5.out)))
        go_upto_region 13 with (go_at_call 21; refine HRC.out.mono ?_; rintro e w6 ⟨⟨v8, rfl, hv8⟩, hb6⟩; (have HV8 := Lib.hid hv8); (have HN6 := Lib.hid hb6); obtain ⟨Ar3, cr3, rfl, _, _, _⟩ := hv8; (have hco6 := block_kept hb6 HCo5.out); (have yf := Lib.frozen_of_heap hco6 2); (have yc := cell_at hco6 (i := 2) rfl); clear hb6 HRC)
        have HS3 := Lib.hid (Sl.mv (by decide) (Sl.mv (by decide) HS2.out (chg_of_below HN6.out (fun _ => False)) (fun j hj e => e)) (chg_setCell w6 wr.heap.size 2 (.slice Ar3 (rowsC c.rows).length cr3)) (fun j hj e => by omega))
        have HA3 := Lib.hid (Sl.mv (by decide) (Sl.mv (by decide) HA2.out (chg_of_below HN6.out (fun _ => False)) (fun j hj e => e)) (chg_setCell w6 wr.heap.size 2 (.slice Ar3 (rowsC c.rows).length cr3)) (fun j hj e => by omega))
        have HR3 := Lib.hid (Sl.mv (by decide) (HV8.out.low (n := wr.heap.size + 1) HZ5.out) (chg_setCell w6 wr.heap.size 2 (.slice Ar3 (rowsC c.rows).length cr3)) (fun j hj e => by omega))
        have HBV7 := Lib.hid ((HBV5.out.trans (HN6.out.mono HBV5.out.size)).trans ((chg_setCell w6 wr.heap.size 2 (.slice Ar3 (rowsC c.rows).length cr3)).below (B := wr.heap.size) (fun j hj e => by omega) (Nat.le_trans HBV5.out.size HN6.out.size)))
        have HZ7 : Hid (wr.heap.size + 1 ≤ (w6.setCell ⟨wr.heap.size, 2, none⟩ (.slice Ar3 (rowsC c.rows).length cr3)).heap.size) := Lib.hid (by rw [Go.Deep.nblk_setCell]; have := HN6.out.size; have := HZ5.out; omega)
        have HCo7 : Hid (ConAt wr.heap.size (w6.setCell ⟨wr.heap.size, 2, none⟩ (.slice Ar3 (rowsC c.rows).length cr3)) c.kind (.slice Ar1 q1.length cr1) (.slice Ar3 (rowsC c.rows).length cr3) (.slice Ar2 q2.length cr2)) := Lib.hid (by unfold ConAt; simp [World.setCell, Array.getElem?_modify, hco6])
        clear hco6 yf yc HV8 HN6 HCo5 HBV5 HZ5 y5 HS2 HA2
        generalize w6.setCell ⟨wr.heap.size, 2, none⟩ (.slice Ar3 (rowsC c.rows).length cr3) = V7 at *
        have hc7 := HC.out.below HBV7.out
        obtain ⟨DH, Dh, rfl, _, _, _⟩ := HC.out.st.H.sl (by simp only; omega)
        have z0 := cell_at hc7.out (i := 1) rfl
        have c0 := cell_at HCo7.out (i := 0) rfl
        have c1 := cell_at HCo7.out (i := 1) rfl
        have c2 := cell_at HCo7.out (i := 2) rfl
        have c3 := cell_at HCo7.out (i := 3) rfl
        have hb9 := below_alloc1 V7 (.cells #[.int .i64 c.kind, .slice Ar1 q1.length cr1, .slice Ar3 (rowsC c.rows).length cr3, .slice Ar2 q2.length cr2] 43)
        have hb9r := HBV7.out.trans (hb9.mono HBV7.out.size)
        have HB9 := Lib.hid hb9r
        obtain ⟨css, hcs1, hcs2⟩ := HC.out.openH hb9r V7.heap.size HBV7.out.size
        have HCS1 := Lib.hid hcs1
        have HCS2 := Lib.hid hcs2
        have hcc : cutC c = ⟨c.kind, q1, rowsC c.rows, q2⟩ := by rw [cutC, HQ1.out, HQ2.out]
        have HX : Hid (kCon.K (V7.alloc (.cells #[.int .i64 c.kind, .slice Ar1 q1.length cr1, .slice Ar3 (rowsC c.rows).length cr3, .slice Ar2 q2.length cr2] 43)) (fun j => ok j ∨ (wr.heap.size ≤ j ∧ j < V7.heap.size)) (cutC c) [.int .i64 c.kind, .slice Ar1 q1.length cr1, .slice Ar3 (rowsC c.rows).length cr3, .slice Ar2 q2.length cr2]) := Lib.hid (by
          rw [hcc]
          exact kCon_mk (c := ⟨c.kind, q1, rowsC c.rows, q2⟩) ((HS3.out.below (by decide) hb9).mono fun j h => Or.inr ⟨by omega, h.2⟩) ((HR3.out.below (by decide) hb9).mono fun j h => Or.inr ⟨by omega, h.2⟩) ((HA3.out.below (by decide) hb9).mono fun j h => Or.inr ⟨by omega, h.2⟩))
        clear hb9 hb9r hcs1 hcs2 hc7 HS3 HA3 HR3
        obtain ⟨iC, hiC, hC0, hC1, hC2⟩ := info_parts (show (Tryz.prog.info? 43).map (fun i => (i.zero, i.size, i.bytes)) = some (some (.agg #[.int .i64 0, .slice none 0 0, .slice none 0 0, .slice none 0 0]), 4, 80) by kernel_rfl)
        go_wp2_with (at_builtin; refine wpList_append_lies _ rfl (.tmp 82) (.tmp 84) 23 rfl (w.heap.size + 3) 43 iC _ 4 80 Tryz.underlying23 hiC hC0 hC1 hC2 rfl (by decide) (.slice DH xs.length Dh) xs.length css.flatten rfl HCS2.out ⟨_, 0, none⟩ 1 1 [.int .i64 c.kind, .slice Ar1 q1.length cr1, .slice Ar3 (rowsC c.rows).length cr3, .slice Ar2 q2.length cr2] rfl rfl (World.news_of_block (cs := #[.int .i64 c.kind, .slice Ar1 q1.length cr1, .slice Ar3 (rowsC c.rows).length cr3, .slice Ar2 q2.length cr2]) (t := 43) (fr := (0, 0)) (heap_alloc_new V7 _)) (by simp [Value.oneCell']) (by decide) (by simp only [maxLen]; omega) (by omega) (by have := HBV7.out.size; simp; omega) (V7.heap.size + 1) (by simp) ?_)
        intro kb cap w9 hown hgrow hat hlt9
        have hP := HC.out.pushH HB9.out V7.heap.size HBV7.out.size (by simp) HCS1.out HX.out hgrow hown (hat_of hat (by simp))
        have HP := Lib.hid hP
        have hh := (HC.out.store HB9.out (v := .slice DH xs.length Dh) (fun k hk => (HC.out.st.H.own k hk).1) hgrow 1 (.slice none 0 0)).2.2.1
        have yf := Lib.frozen_of_heap hh 1
        have yc := cell_at hh (i := 1) rfl
        clear hP hh hown hgrow hat HCS1 HCS2 HX HB9 HBV7 HCo7 HC z0 c0 c1 c2 c3
        go_wp2
        go_roundg (10 - (k + 1))
        case rel => exact ⟨k + 1, _, _, by go_num, by omega, by omega, by rw [HNX.out]; exact HP.out, rfl⟩
        case measure => have := HG.out; omega
      · have hend : (x.hard.take k).map cutC = (x.hard.take 10).map cutC := by
          by_cases h1 : k < x.hard.length
          · rw [show k = 10 by omega]
          · rw [List.take_of_length_le (by omega), List.take_of_length_le (by omega)]
        rw [hend] at HC
        by_cases h1 : k < x.hard.length
        · have h42 : k = 10 := by omega
          subst h42
          go_wp2_with fail
          go_meet
          case rel => exact ⟨_, _, HC.out⟩
        · have hk1 : k = x.hard.length := by omega
          subst hk1
          go_wp2_with fail
          go_meet
          case rel => exact ⟨_, _, HC.out⟩
  case rest =>
    obtain ⟨hv, okd, hc0⟩ := hcut
    have HC0 := Lib.hid hc0
    have hxh : ((x.hard.take 10).map cutC).length ≤ 10 := by rw [List.length_map, List.length_take]; omega
    generalize hxhe : (x.hard.take 10).map cutC = xh at *
    clear hc0 HH
    go_upto_block 4 with fail
    go_cut [7, 8] from 87 to 132 (fun _ _ wx => ∃ sv ok, CutAt w wx (.slice AD x.doms.length cD) (.slice AH x.hard.length cH) (.slice AS x.soft.length cS) ⟨xd, xh, (x.soft.take 10).map cutS⟩ dv hv sv ok)
    case first =>
      go_wp2_with fail
      go_loopg [7, 8] 10 (fun g i _ wr => CutS w (.slice AD x.doms.length cD) (.slice AH x.hard.length cH) (.slice AS x.soft.length cS) x xd xh dv hv g i wr)
      case atStart => exact ⟨0, _, _, rfl, Nat.zero_le _, Nat.zero_le _, HC0.out, rfl⟩
      case round =>
        clear HC0
        obtain ⟨k, sv, ok, rfl, hk, hk10, hc, hg⟩ := hrel
        have HG := Lib.hid hg
        have HC := Lib.hid hc
        have x1 := cell_at hc.arg (i := 2) rfl
        have hgw := hc.lt
        have hbw := hc.bel
        clear hg hc
        by_cases hlt : k < x.soft.length ∧ k < 10
        · obtain ⟨hlt, hlt10⟩ := hlt
          obtain ⟨b, o, cs, rfl, _, hK, hcell⟩ := HS.out.elems k (nth default x.soft k) (nth_get default x.soft k hlt)
          obtain ⟨vs, vr, va, rfl, e1, e2, e3⟩ := kSft_cells hK
          have f0 := cell_kept hbw (hcell 0 _ rfl)
          have f1 := cell_kept hbw (hcell 1 _ rfl)
          have f2 := cell_kept hbw (hcell 2 _ rfl)
          have f3 := cell_kept hbw (hcell 3 _ rfl)
          simp only [show kSft.sz = 4 from rfl, Nat.add_zero, ← Nat.add_assoc] at f0 f1 f2 f3
          have HSl1 := Lib.hid e1
          have HSl2 := Lib.hid e3
          have HSr := Lib.hid e2
          obtain ⟨As1, Cs1, rfl, hcs1, hms1, _⟩ := e1
          obtain ⟨As2, Cs2, rfl, hcs2, hms2, _⟩ := e3
          obtain ⟨Asr, Csr, rfl, _, _, _⟩ := e2
          have hxl : ((x.soft.take k).map cutS).length = k := by rw [List.length_map, List.length_take]; omega
          have hnx := map_next default cutS x.soft k hlt
          generalize nth default x.soft k = c at *
          generalize (x.soft.take k).map cutS = xs at *
          have hxm : xs.length ≤ 10 := by omega
          clear hxl
          have HNX := Lib.hid hnx
          clear hnx hcell hK
          go_upto_region 18 with fail
          have HBV1 := Lib.hid (below_alloc1 wr (.cells #[.slice As1 c.scope.length Cs1, .slice Asr c.rows.length Csr, .slice As2 c.costs.length Cs2, .int .i64 c.dflt] 47))
          have HCo1 : Hid (SftAt wr.heap.size _ _ _ _ _) := Lib.hid (heap_alloc_new wr (.cells #[.slice As1 c.scope.length Cs1, .slice Asr c.rows.length Csr, .slice As2 c.costs.length Cs2, .int .i64 c.dflt] 47))
          have HZ1 : Hid ((wr.alloc (.cells #[.slice As1 c.scope.length Cs1, .slice Asr c.rows.length Csr, .slice As2 c.costs.length Cs2, .int .i64 c.dflt] 47)).heap.size = wr.heap.size + 1) := Lib.hid (by simp)
          generalize wr.alloc (.cells #[.slice As1 c.scope.length Cs1, .slice Asr c.rows.length Csr, .slice As2 c.costs.length Cs2, .int .i64 c.dflt] 47) = V1 at *
          have y1 : (V1.alloc (.cells #[] 3)).cell? ⟨wr.heap.size, 0, none⟩ = some (.slice As1 c.scope.length Cs1) := cell_at (block_kept (below_alloc1 V1 _) HCo1.out) (i := 0) rfl
          have hsl1 := Sl.below (by decide) (Sl.below (by decide) HSl1.out (below_next HC.out.bel HBV1.out)) (below_alloc1 V1 (.cells #[] 3))
          have how1 := World.ownsRow_lit (base := V1.heap.size) (e := 3) (size := 1) V1 #[] 0 (Nat.le_refl _) (by decide) rfl
          obtain ⟨i1, hi1, ha1, hb1, hc1⟩ := info_parts (show (Tryz.prog.info? 3).map (fun i => (i.zero, i.size, i.bytes)) = some (some (.int .i64 0), 1, 8) by kernel_rfl)
          have hmn1 : min ((c.scope).length : Int) 8 = ((min (c.scope).length 8 : Nat) : Int) := by omega
          have hmc1 : min (c.scope).length 8 ≤ Cs1 := by omega
          obtain ⟨q1, hq1⟩ : ∃ q, (c.scope).take 8 = q := ⟨_, rfl⟩
          have HQ1 := Lib.hid hq1
          have HT1 : Hid (q1 ≠ [] → ∃ b o', As1 = some ⟨b, o', none⟩ ∧ ∀ j u, q1[j]? = some u → (V1.alloc (.cells #[] 3)).cell? ⟨b, o' + j, none⟩ = some (.int .i64 u)) := Lib.hid (by rw [← hq1]; exact hsl1.elems.taken 8)
          have hq11 : min (c.scope).length 8 = q1.length := by rw [← hq1, List.length_take, Nat.min_comm]
          have hq21 : q1.length ≤ 8 := by omega
          clear hq1
          go_wp2_with (at_builtin; refine wpList_append_copy rfl (.tmp 103) (.tmp 110) 41 rfl V1.heap.size 3 i1 _ 8 Tryz.underlying41 hi1 ha1 hb1 hc1 rfl .i64 (.slice (some ⟨V1.heap.size, 0, none⟩) 0 0) rfl how1 q1 As1 _ Cs1 rfl (by first | rfl | exact hq11) HT1.out (by simp only [maxLen]; omega) (by omega) (by simp) ?_)
          intro v1 w2 hown hgrow hat
          have hg1 : Chg (fun j => V1.heap.size = j) V1 w2 := ((Chg.alloc0 V1 (.cells #[] 3) (fun _ => False)).mono (fun _ _ h => h.elim)).trans (chg_of_grown hgrow) (fun j _ h => by simpa [Value.ownBlock] using h)
          have hbn1 : Below V1.heap.size V1 w2 := hg1.below (fun j hj e => by omega) (Nat.le_refl _)
          have HN1 := Lib.hid hbn1
          have hv1 := sl_of_own (xs := q1) hown (by omega)
          have HV1 := Lib.hid hv1
          obtain ⟨Ar1, cr1, rfl, _, _, _⟩ := hv1
          clear hown hgrow hat hg1 hsl1 how1 hmn1 hmc1 HT1 hq11
          have hco2 := block_kept HN1.out HCo1.out
          have yf := Lib.frozen_of_heap hco2 0
          have yc := cell_at hco2 (i := 0) rfl
          go_upto_region 19 with fail
          have HS1 := Lib.hid (Sl.mv (by decide) (HV1.out.low (n := wr.heap.size + 1) (by have := HZ1.out; omega)) (chg_setCell w2 wr.heap.size 0 (.slice Ar1 q1.length cr1)) (fun j hj e => by omega))
          have HBV3 := Lib.hid ((HBV1.out.trans (HN1.out.mono HBV1.out.size)).trans ((chg_setCell w2 wr.heap.size 0 (.slice Ar1 q1.length cr1)).below (B := wr.heap.size) (fun j hj e => by omega) (Nat.le_trans HBV1.out.size HN1.out.size)))
          have HZ3 : Hid (wr.heap.size + 1 ≤ (w2.setCell ⟨wr.heap.size, 0, none⟩ (.slice Ar1 q1.length cr1)).heap.size) := Lib.hid (by rw [Go.Deep.nblk_setCell]; have := HN1.out.size; have := HZ1.out; omega)
          have HCo3 : Hid (SftAt wr.heap.size (w2.setCell ⟨wr.heap.size, 0, none⟩ (.slice Ar1 q1.length cr1)) (.slice Ar1 q1.length cr1) (.slice Asr c.rows.length Csr) (.slice As2 c.costs.length Cs2) c.dflt) := Lib.hid (by unfold SftAt; simp [World.setCell, Array.getElem?_modify, hco2])
          clear hco2 yf yc HV1 HN1 HCo1 HBV1 HZ1 y1
          generalize w2.setCell ⟨wr.heap.size, 0, none⟩ (.slice Ar1 q1.length cr1) = V3 at *
          have y3 : (V3.alloc (.cells #[] 2)).cell? ⟨wr.heap.size, 2, none⟩ = some (.slice As2 c.costs.length Cs2) := cell_at (block_kept (below_alloc1 V3 _) HCo3.out) (i := 2) rfl
          have hsl2 := Sl.below (by decide) (Sl.below (by decide) HSl2.out (below_next HC.out.bel HBV3.out)) (below_alloc1 V3 (.cells #[] 2))
          have how2 := World.ownsRow_lit (base := V3.heap.size) (e := 2) (size := 1) V3 #[] 0 (Nat.le_refl _) (by decide) rfl
          obtain ⟨i2, hi2, ha2, hb2, hc2⟩ := info_parts (show (Tryz.prog.info? 2).map (fun i => (i.zero, i.size, i.bytes)) = some (some (.int .i64 0), 1, 8) by kernel_rfl)
          have hmn2 : min ((c.costs).length : Int) 30 = ((min (c.costs).length 30 : Nat) : Int) := by omega
          have hmc2 : min (c.costs).length 30 ≤ Cs2 := by omega
          obtain ⟨q2, hq2⟩ : ∃ q, (c.costs).take 30 = q := ⟨_, rfl⟩
          have HQ2 := Lib.hid hq2
          have HT2 : Hid (q2 ≠ [] → ∃ b o', As2 = some ⟨b, o', none⟩ ∧ ∀ j u, q2[j]? = some u → (V3.alloc (.cells #[] 2)).cell? ⟨b, o' + j, none⟩ = some (.int .i64 u)) := Lib.hid (by rw [← hq2]; exact hsl2.elems.taken 30)
          have hq12 : min (c.costs).length 30 = q2.length := by rw [← hq2, List.length_take, Nat.min_comm]
          have hq22 : q2.length ≤ 30 := by omega
          clear hq2
          go_wp2_with (at_builtin; refine wpList_append_copy rfl (.tmp 113) (.tmp 120) 45 rfl V3.heap.size 2 i2 _ 8 Tryz.underlying45 hi2 ha2 hb2 hc2 rfl .i64 (.slice (some ⟨V3.heap.size, 0, none⟩) 0 0) rfl how2 q2 As2 _ Cs2 rfl (by first | rfl | exact hq12) HT2.out (by simp only [maxLen]; omega) (by omega) (by simp) ?_)
          intro v2 w4 hown hgrow hat
          have hg2 : Chg (fun j => V3.heap.size = j) V3 w4 := ((Chg.alloc0 V3 (.cells #[] 2) (fun _ => False)).mono (fun _ _ h => h.elim)).trans (chg_of_grown hgrow) (fun j _ h => by simpa [Value.ownBlock] using h)
          have hbn2 : Below V3.heap.size V3 w4 := hg2.below (fun j hj e => by omega) (Nat.le_refl _)
          have HN2 := Lib.hid hbn2
          have hv2 := sl_of_own (xs := q2) hown (by omega)
          have HV2 := Lib.hid hv2
          obtain ⟨Ar2, cr2, rfl, _, _, _⟩ := hv2
          clear hown hgrow hat hg2 hsl2 how2 hmn2 hmc2 HT2 hq12
          have hco4 := block_kept HN2.out HCo3.out
          have yf := Lib.frozen_of_heap hco4 2
          have yc := cell_at hco4 (i := 2) rfl
          go_upto_region 20 with fail
          have HS2 := Lib.hid (Sl.mv (by decide) (Sl.mv (by decide) HS1.out (chg_of_below HN2.out (fun _ => False)) (fun j hj e => e)) (chg_setCell w4 wr.heap.size 2 (.slice Ar2 q2.length cr2)) (fun j hj e => by omega))
          have HA2 := Lib.hid (Sl.mv (by decide) (HV2.out.low (n := wr.heap.size + 1) HZ3.out) (chg_setCell w4 wr.heap.size 2 (.slice Ar2 q2.length cr2)) (fun j hj e => by omega))
          have HBV5 := Lib.hid ((HBV3.out.trans (HN2.out.mono HBV3.out.size)).trans ((chg_setCell w4 wr.heap.size 2 (.slice Ar2 q2.length cr2)).below (B := wr.heap.size) (fun j hj e => by omega) (Nat.le_trans HBV3.out.size HN2.out.size)))
          have HZ5 : Hid (wr.heap.size + 1 ≤ (w4.setCell ⟨wr.heap.size, 2, none⟩ (.slice Ar2 q2.length cr2)).heap.size) := Lib.hid (by rw [Go.Deep.nblk_setCell]; have := HN2.out.size; have := HZ3.out; omega)
          have HCo5 : Hid (SftAt wr.heap.size (w4.setCell ⟨wr.heap.size, 2, none⟩ (.slice Ar2 q2.length cr2)) (.slice Ar1 q1.length cr1) (.slice Asr c.rows.length Csr) (.slice Ar2 q2.length cr2) c.dflt) := Lib.hid (by unfold SftAt; simp [World.setCell, Array.getElem?_modify, hco4])
          clear hco4 yf yc HV2 HN2 HCo3 HBV3 HZ3 y3 HS1
          generalize w4.setCell ⟨wr.heap.size, 2, none⟩ (.slice Ar2 q2.length cr2) = V5 at *
          have y5 := cell_at HCo5.out (i := 1) rfl
          have HRC := Lib.hid (rows_cut (.slice Asr c.rows.length Csr) c.rows okv V5 (Sl.below (by decide) HSr.out (below_next HC.out.bel HBV5.out)))
          go_upto_region 21 with (go_at_call 21; refine HRC.out.mono ?_; rintro e w6 ⟨⟨v8, rfl, hv8⟩, hb6⟩; (have HV8 := Lib.hid hv8); (have HN6 := Lib.hid hb6); obtain ⟨Ar3, cr3, rfl, _, _, _⟩ := hv8; (have hco6 := block_kept hb6 HCo5.out); (have yf := Lib.frozen_of_heap hco6 1); (have yc := cell_at hco6 (i := 1) rfl); clear hb6 HRC)
          have HS3 := Lib.hid (Sl.mv (by decide) (Sl.mv (by decide) HS2.out (chg_of_below HN6.out (fun _ => False)) (fun j hj e => e)) (chg_setCell w6 wr.heap.size 1 (.slice Ar3 (rowsC c.rows).length cr3)) (fun j hj e => by omega))
          have HA3 := Lib.hid (Sl.mv (by decide) (Sl.mv (by decide) HA2.out (chg_of_below HN6.out (fun _ => False)) (fun j hj e => e)) (chg_setCell w6 wr.heap.size 1 (.slice Ar3 (rowsC c.rows).length cr3)) (fun j hj e => by omega))
          have HR3 := Lib.hid (Sl.mv (by decide) (HV8.out.low (n := wr.heap.size + 1) HZ5.out) (chg_setCell w6 wr.heap.size 1 (.slice Ar3 (rowsC c.rows).length cr3)) (fun j hj e => by omega))
          have HBV7 := Lib.hid ((HBV5.out.trans (HN6.out.mono HBV5.out.size)).trans ((chg_setCell w6 wr.heap.size 1 (.slice Ar3 (rowsC c.rows).length cr3)).below (B := wr.heap.size) (fun j hj e => by omega) (Nat.le_trans HBV5.out.size HN6.out.size)))
          have HZ7 : Hid (wr.heap.size + 1 ≤ (w6.setCell ⟨wr.heap.size, 1, none⟩ (.slice Ar3 (rowsC c.rows).length cr3)).heap.size) := Lib.hid (by rw [Go.Deep.nblk_setCell]; have := HN6.out.size; have := HZ5.out; omega)
          have HCo7 : Hid (SftAt wr.heap.size (w6.setCell ⟨wr.heap.size, 1, none⟩ (.slice Ar3 (rowsC c.rows).length cr3)) (.slice Ar1 q1.length cr1) (.slice Ar3 (rowsC c.rows).length cr3) (.slice Ar2 q2.length cr2) c.dflt) := Lib.hid (by unfold SftAt; simp [World.setCell, Array.getElem?_modify, hco6])
          clear hco6 yf yc HV8 HN6 HCo5 HBV5 HZ5 y5 HS2 HA2
          generalize w6.setCell ⟨wr.heap.size, 1, none⟩ (.slice Ar3 (rowsC c.rows).length cr3) = V7 at *
          have hc7 := HC.out.below HBV7.out
          obtain ⟨DH, Dh, rfl, _, _, _⟩ := HC.out.st.S.sl (by simp only; omega)
          have z0 := cell_at hc7.out (i := 2) rfl
          have c0 := cell_at HCo7.out (i := 0) rfl
          have c1 := cell_at HCo7.out (i := 1) rfl
          have c2 := cell_at HCo7.out (i := 2) rfl
          have c3 := cell_at HCo7.out (i := 3) rfl
          have hb9 := below_alloc1 V7 (.cells #[.slice Ar1 q1.length cr1, .slice Ar3 (rowsC c.rows).length cr3, .slice Ar2 q2.length cr2, .int .i64 c.dflt] 47)
          have hb9r := HBV7.out.trans (hb9.mono HBV7.out.size)
          have HB9 := Lib.hid hb9r
          obtain ⟨css, hcs1, hcs2⟩ := HC.out.openS hb9r V7.heap.size HBV7.out.size
          have HCS1 := Lib.hid hcs1
          have HCS2 := Lib.hid hcs2
          have hcc : cutS c = ⟨q1, rowsC c.rows, q2, c.dflt⟩ := by rw [cutS, HQ1.out, HQ2.out]
          have HX : Hid (kSft.K (V7.alloc (.cells #[.slice Ar1 q1.length cr1, .slice Ar3 (rowsC c.rows).length cr3, .slice Ar2 q2.length cr2, .int .i64 c.dflt] 47)) (fun j => ok j ∨ (wr.heap.size ≤ j ∧ j < V7.heap.size)) (cutS c) [.slice Ar1 q1.length cr1, .slice Ar3 (rowsC c.rows).length cr3, .slice Ar2 q2.length cr2, .int .i64 c.dflt]) := Lib.hid (by
            rw [hcc]
            exact kSft_mk (s := ⟨q1, rowsC c.rows, q2, c.dflt⟩) ((HS3.out.below (by decide) hb9).mono fun j h => Or.inr ⟨by omega, h.2⟩) ((HR3.out.below (by decide) hb9).mono fun j h => Or.inr ⟨by omega, h.2⟩) ((HA3.out.below (by decide) hb9).mono fun j h => Or.inr ⟨by omega, h.2⟩))
          clear hb9 hb9r hcs1 hcs2 hc7 HS3 HA3 HR3
          obtain ⟨iC, hiC, hC0, hC1, hC2⟩ := info_parts (show (Tryz.prog.info? 47).map (fun i => (i.zero, i.size, i.bytes)) = some (some (.agg #[.slice none 0 0, .slice none 0 0, .slice none 0 0, .int .i64 0]), 4, 80) by kernel_rfl)
          go_wp2_with (at_builtin; refine wpList_append_lies _ rfl (.tmp 128) (.tmp 130) 24 rfl (w.heap.size + 3) 47 iC _ 4 80 Tryz.underlying24 hiC hC0 hC1 hC2 rfl (by decide) (.slice DH xs.length Dh) xs.length css.flatten rfl HCS2.out ⟨_, 0, none⟩ 1 1 [.slice Ar1 q1.length cr1, .slice Ar3 (rowsC c.rows).length cr3, .slice Ar2 q2.length cr2, .int .i64 c.dflt] rfl rfl (World.news_of_block (cs := #[.slice Ar1 q1.length cr1, .slice Ar3 (rowsC c.rows).length cr3, .slice Ar2 q2.length cr2, .int .i64 c.dflt]) (t := 47) (fr := (0, 0)) (heap_alloc_new V7 _)) (by simp [Value.oneCell']) (by decide) (by simp only [maxLen]; omega) (by omega) (by have := HBV7.out.size; simp; omega) (V7.heap.size + 1) (by simp) ?_)
          intro kb cap w9 hown hgrow hat hlt9
          have hP := HC.out.pushS HB9.out V7.heap.size HBV7.out.size (by simp) HCS1.out HX.out hgrow hown (hat_of hat (by simp))
          have HP := Lib.hid hP
          have hh := (HC.out.store HB9.out (v := .slice DH xs.length Dh) (fun k hk => (HC.out.st.S.own k hk).1) hgrow 2 (.slice none 0 0)).2.2.1
          have yf := Lib.frozen_of_heap hh 2
          have yc := cell_at hh (i := 2) rfl
          clear hP hh hown hgrow hat HCS1 HCS2 HX HB9 HBV7 HCo7 HC z0 c0 c1 c2 c3
          go_wp2
          go_roundg (10 - (k + 1))
          case rel => exact ⟨k + 1, _, _, by go_num, by omega, by omega, by rw [HNX.out]; exact HP.out, rfl⟩
          case measure => have := HG.out; omega
        · have hend : (x.soft.take k).map cutS = (x.soft.take 10).map cutS := by
            by_cases h1 : k < x.soft.length
            · rw [show k = 10 by omega]
            · rw [List.take_of_length_le (by omega), List.take_of_length_le (by omega)]
          rw [hend] at HC
          by_cases h1 : k < x.soft.length
          · have h42 : k = 10 := by omega
            subst h42
            go_wp2_with fail
            go_meet
            case rel => exact ⟨_, _, HC.out⟩
          · have hk1 : k = x.soft.length := by omega
            subst hk1
            go_wp2_with fail
            go_meet
            case rel => exact ⟨_, _, HC.out⟩
    case rest =>
      obtain ⟨sv, oks, hc0⟩ := hcut
      have hxs : ((x.soft.take 10).map cutS).length ≤ 10 := by rw [List.length_map, List.length_take]; omega
      generalize hxse : (x.soft.take 10).map cutS = xs at *
      obtain ⟨A1, k1, rfl, _, _, _⟩ := hc0.st.D.sl (by simp only; omega)
      obtain ⟨A2, k2, rfl, _, _, _⟩ := hc0.st.H.sl (by simp only; omega)
      obtain ⟨A3, k3, rfl, _, _, _⟩ := hc0.st.S.sl (by simp only; omega)
      have HI := Lib.hid (hc0.inst (by simp only; omega) (by simp only; omega) (by simp only; omega))
      have x0 := cell_at hc0.out (i := 0) rfl
      have x1 := cell_at hc0.out (i := 1) rfl
      have x2 := cell_at hc0.out (i := 2) rfl
      have y0 := cell_at hc0.res (i := 0) rfl
      have y1 := cell_at hc0.res (i := 1) rfl
      have y2 := cell_at hc0.res (i := 2) rfl
      have f0 := Lib.frozen_of_heap hc0.res 0
      have f1 := Lib.frozen_of_heap hc0.res 1
      have f2 := Lib.frozen_of_heap hc0.res 2
      have HB := Lib.hid hc0.bel
      have hlt := hc0.lt
      have HRES := Lib.hid hc0.res
      clear hc0
      go_wp2_with fail
      have hch : Chg (fun k => k = w.heap.size + 1) wc (((wc.setCell ⟨w.heap.size + 1, 0, none⟩ (.slice A1 xd.length k1)).setCell ⟨w.heap.size + 1, 1, none⟩ (.slice A2 xh.length k2)).setCell ⟨w.heap.size + 1, 2, none⟩ (.slice A3 xs.length k3)) :=
        ((chg_setCell wc _ 0 _).trans (chg_setCell _ _ 1 _) (fun _ _ h => h)).trans (chg_setCell _ _ 2 _) (fun _ _ h => h)
      have hfin : (((wc.setCell ⟨w.heap.size + 1, 0, none⟩ (.slice A1 xd.length k1)).setCell ⟨w.heap.size + 1, 1, none⟩ (.slice A2 xh.length k2)).setCell ⟨w.heap.size + 1, 2, none⟩ (.slice A3 xs.length k3)).heap[w.heap.size + 1]? = some (.cells #[.slice A1 xd.length k1, .slice A2 xh.length k2, .slice A3 xs.length k3] 26) := by
        simp [World.setCell, Array.getElem?_modify, HRES.out]
      refine bodyPost_ret (results_cell_row rfl _ _ (w.heap.size + 1) 26 #[.slice A1 xd.length k1, .slice A2 xh.length k2, .slice A3 xs.length k3] (0, 0) _ rfl hfin Tryz.underlying26 rfl (by kernel_rfl)) rfl ?_
      refine ⟨⟨_, _, _, rfl, ?_⟩, ?_⟩
      · have := (HI.out.chg hch (fun k hk e => by omega)).mono (ok' := fun k => w.heap.size ≤ k ∧ k < (((wc.setCell ⟨w.heap.size + 1, 0, none⟩ (.slice A1 xd.length k1)).setCell ⟨w.heap.size + 1, 1, none⟩ (.slice A2 xh.length k2)).setCell ⟨w.heap.size + 1, 2, none⟩ (.slice A3 xs.length k3)).heap.size) (fun k hk => ⟨by omega, by rw [Go.Deep.nblk_setCell, Go.Deep.nblk_setCell, Go.Deep.nblk_setCell]; exact hk.2⟩)
        rw [cutI, hxde, hxhe, hxse]
        exact this
      · exact HB.out.trans (hch.below (B := w.heap.size) (fun k hk e => by omega) (by omega))
end Go.Proofs.YtoahaigfjfeopaaGreatDoor
