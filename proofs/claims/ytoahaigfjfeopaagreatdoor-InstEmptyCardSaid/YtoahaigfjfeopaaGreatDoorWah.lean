/- inst.Parse's deferred closure: what recovers an error. -/
import Derived.Test.YtoahaigfjfeopaaGreatDoorWag
import Derived.Defers
import Derived.Recover
namespace Go.Proofs.YtoahaigfjfeopaaGreatDoor
open Go.RowKit
attribute [local irreducible] wpStill wpLex Calls

theorem wpS_of_wpK {P : Program} {c : Code} {Q : Exit → Act → List Frame → World → Prop} {a : Act} {cs : List Frame} {w : World} (h0 : ∀ c (a : Act) d v w, Q (.panic c) (a.put d v) cs w → Q (.panic c) a cs w)
    (h : ∀ Q' : Exit → Act → World → Prop, (∀ c (a : Act) d v w, Q' (.panic c) (a.put d v) w → Q' (.panic c) a w) → (∀ e a' w', Q e a' cs w' → Q' e a' w') → c.wp P Q' a w) : c.wpS P Q a cs w :=
  wpS_of_wp (h (fun e a' w' => Q e a' cs w') h0 fun _ _ _ h => h)
/-- Nothing to recover. -/
theorem parse1_idle (p q r : Value) (w : World) :
    CallsD Tryz.prog 45 #[p, q, r] .returning w fun e u' w' => e = .returned (.tuple #[]) ∧ u' = .returning ∧ w' = w := by
  have hnil : ∀ w : World, (binOp BinOp.eql 20 .nilIface .nilIface).run Tryz.prog w = .ok (.bool true) w := fun _ => by kernel_rfl
  refine callsD_of_wpS Tryz.func45 rfl fun c₀ cs hu => ?_
  apply wpS_seq
  apply wpS_region
  simp [wpOpsS, go_sem, recoverD, hu, Tryz.ntmps45, Exit.thenS]
  refine wpS_of_wpK (fun c a d v w h => by cases d <;> exact h) fun Q hQP hQ => ?_
  have HU := Lib.hid hu
  have HQ := Lib.hid hQ
  have HQP := Lib.hid hQP
  clear hu hQ hQP
  change Code.wp _ _ Q { tmps := #[p, q, r, undef, undef, undef, .nilIface, undef, undef, undef, undef, undef, undef, undef, undef, undef, undef], defers := [] } w
  go_wp2
  refine HQ.out _ _ _ ?_
  cases c₀
  have := HU.out
  simp_all [bodyPostS, results, Tryz.results45]
set_option maxRecDepth 100000 in
set_option maxHeartbeats 2000000 in
/-- An error of the parser: it is told. -/
theorem parse1_wrong (bx ba be : Nat) (at_ er : Int) (x0 x1 x2 : Value) (y z : Int) (older : List PanicEntry) (w : World) (hx : w.heap[bx]? = some (.cells #[x0, x1, x2] 26 (0, 0))) (ha : w.heap[ba]? = some (.cells #[.int .i64 y] 3 (0, 0))) (he : w.heap[be]? = some (.cells #[.int .i64 z] 32 (0, 0))) (hxa : bx ≠ ba) (hxe : bx ≠ be) (hae : ba ≠ be) :
    CallsD Tryz.prog 45 #[.pointer (some ⟨bx, 0, none⟩), .pointer (some ⟨ba, 0, none⟩), .pointer (some ⟨be, 0, none⟩)] (.panicking ({ v := .iface 78 (.agg #[.int .i64 at_, .int .i64 er]), recovered := false } :: older)) w fun e u' w' =>
      e = .returned (.tuple #[]) ∧ u' = .panicking ({ v := .iface 78 (.agg #[.int .i64 at_, .int .i64 er]), recovered := true } :: older) ∧ w'.heap[bx]? = some (.cells #[.slice none 0 0, .slice none 0 0, .slice none 0 0] 26 (0, 0)) ∧ w'.heap[ba]? = some (.cells #[.int .i64 at_] 3 (0, 0)) ∧
        w'.heap[be]? = some (.cells #[.int .i64 er] 32 (0, 0)) ∧ Chg (fun k => k = bx ∨ k = ba ∨ k = be) w w' := by
  have hnil : ∀ w : World, (binOp BinOp.eql 20 (.iface 78 (.agg #[.int .i64 at_, .int .i64 er])) .nilIface).run Tryz.prog w = .ok (.bool false) w := fun _ => by kernel_rfl
  have hta : ∀ w : World, (Instr.typeAssert (.iface 78 (.agg #[.int .i64 at_, .int .i64 er])) 20 78 true).run Tryz.prog w = .ok (.tuple #[.agg #[.int .i64 at_, .int .i64 er], .bool true]) w := fun _ => by kernel_rfl
  refine callsD_of_wpS Tryz.func45 rfl fun c₀ cs hu => ?_
  apply wpS_seq
  apply wpS_region
  simp [wpOpsS, go_sem, recoverD, hu, Tryz.ntmps45, Exit.thenS]
  refine wpS_of_wpK (fun c a d v w h => by cases d <;> exact h) fun Q hQP hQ => ?_
  have HU := Lib.hid hu
  have HQ := Lib.hid hQ
  have HQP := Lib.hid hQP
  clear hu hQ hQP
  change Code.wp _ _ Q { tmps := #[.pointer (some ⟨bx, 0, none⟩), .pointer (some ⟨ba, 0, none⟩), .pointer (some ⟨be, 0, none⟩), undef, undef, undef, .iface 78 (.agg #[.int .i64 at_, .int .i64 er]), undef, undef, undef, undef, undef, undef, undef, undef, undef, undef], defers := [] } w
  have hX := heap_alloc_new w (.cells #[.int .i64 at_, .int .i64 er] 78)
  have hx1 := block_kept (below_alloc1 w (.cells #[.int .i64 at_, .int .i64 er] 78)) hx
  have ha1 := block_kept (below_alloc1 w (.cells #[.int .i64 at_, .int .i64 er] 78)) ha
  have he1 := block_kept (below_alloc1 w (.cells #[.int .i64 at_, .int .i64 er] 78)) he
  have hlx := lt_of_block hx
  have hla := lt_of_block ha
  have hle := lt_of_block he
  have HX := Lib.hid hX
  have HX1 := Lib.hid hx1
  have HA1 := Lib.hid ha1
  have HE1 := Lib.hid he1
  clear hX hx1 ha1 he1 hx ha he
  go_wp2_with fail
  have HF : Hid (Chg (fun k => k = bx ∨ k = ba ∨ k = be) w (World.drew (w.alloc (.cells #[.int .i64 at_, .int .i64 er] 78)))) := Lib.hid (Chg.alloc0 w _ _).drew
  have hX : (World.drew (w.alloc (.cells #[.int .i64 at_, .int .i64 er] 78))).heap[w.heap.size]? = _ := HX.out
  have hx1 : (World.drew (w.alloc (.cells #[.int .i64 at_, .int .i64 er] 78))).heap[bx]? = _ := HX1.out
  have ha1 : (World.drew (w.alloc (.cells #[.int .i64 at_, .int .i64 er] 78))).heap[ba]? = _ := HA1.out
  have he1 : (World.drew (w.alloc (.cells #[.int .i64 at_, .int .i64 er] 78))).heap[be]? = _ := HE1.out
  refine wp_region_lex (fun w' => w'.cell? ⟨w.heap.size, 0, none⟩ = some (.int .i64 at_) ∧ w'.cell? ⟨w.heap.size, 1, none⟩ = some (.int .i64 er)) [true, true, true, true, true, false, false, false] (by kernel_rfl) (by kernel_rfl) (fun c a d v w h => HQP.out c a d v w h) ?_
  change wpLex _ _ _ _ _ _ _ _ _ (World.drew (w.alloc (.cells #[.int .i64 at_, .int .i64 er] 78)))
  generalize World.drew (w.alloc (.cells #[.int .i64 at_, .int .i64 er] 78)) = V at *
  have x1 := cell_at hX (i := 0) rfl
  have x2 := cell_at hX (i := 1) rfl
  have x3 := cell_at hx1 (i := 0) rfl
  have x4 := cell_at hx1 (i := 1) rfl
  have x5 := cell_at hx1 (i := 2) rfl
  have xf := fun i => Lib.frozen_of_heap hx1 i
  have x6 := cell_at ha1 (i := 0) rfl
  have xg := Lib.frozen_of_heap ha1 0
  have x7 := cell_at he1 (i := 0) rfl
  have xh := Lib.frozen_of_heap he1 0
  repeat (first | (refine lex_take ⟨x1, x2⟩ rfl (fun w' hw' => by (obtain ⟨y1, y2⟩ := hw'; (try go_simp); try rfl)) (fun K hK => ?_); go_simp; refine hK _ _ ?_; clear hK K) | (refine lex_take_on _ _ _ _ ⟨x1, x2⟩ rfl rfl rfl rfl (fun w' hw' => by (obtain ⟨y1, y2⟩ := hw'; (try go_simp); try rfl)) (fun K hK => ?_); go_simp; refine hK _ _ ?_; clear hK K) | (refine lex_take_off _ _ _ _ _ ⟨x1, x2⟩ rfl rfl rfl rfl rfl (fun K hK => ?_); go_simp; refine hK _ _ ?_; clear hK K))
  refine lex_step rfl (fun K hK => ?_)
  go_wp2_with fail
  have hV1 : (((V.setCell ⟨bx, 0, none⟩ (.slice none 0 0)).setCell ⟨bx, 1, none⟩ (.slice none 0 0)).setCell ⟨bx, 2, none⟩ (.slice none 0 0)).heap[bx]? = some (.cells #[.slice none 0 0, .slice none 0 0, .slice none 0 0] 26 (0, 0)) := by
    rw [heap_setAt (heap_setAt (heap_setAt hx1 (i := 0) _) (i := 1) _) (i := 2) _]
    rfl
  have hG1 : Chg (fun k => k = bx) V (((V.setCell ⟨bx, 0, none⟩ (.slice none 0 0)).setCell ⟨bx, 1, none⟩ (.slice none 0 0)).setCell ⟨bx, 2, none⟩ (.slice none 0 0)) :=
    ((chg_setCell V bx 0 _).trans (chg_setCell _ bx 1 _) (fun _ _ h => h)).trans (chg_setCell _ bx 2 _) (fun _ _ h => h)
  generalize ((V.setCell ⟨bx, 0, none⟩ (.slice none 0 0)).setCell ⟨bx, 1, none⟩ (.slice none 0 0)).setCell ⟨bx, 2, none⟩ (.slice none 0 0) = V1 at *
  have hX2 := hG1.heap hX (fun e => by omega)
  have ha2 := hG1.heap ha1 (fun e => hxa e.symm)
  have he2 := hG1.heap he1 (fun e => hxe e.symm)
  have HG1 := Lib.hid hG1
  have HV1 := Lib.hid hV1
  clear x1 x2 x3 x4 x5 xf x6 xg x7 xh hG1 hV1 hX hx1 ha1 he1
  have x1 := cell_at hX2 (i := 0) rfl
  have x2 := cell_at hX2 (i := 1) rfl
  have x6 := cell_at ha2 (i := 0) rfl
  have xg := Lib.frozen_of_heap ha2 0
  have x7 := cell_at he2 (i := 0) rfl
  have xh := Lib.frozen_of_heap he2 0
  refine hK _ _ ⟨x1, x2⟩ ?_
  clear hK K
  refine lex_step rfl (fun K hK => ?_)
  go_wp2_with fail
  have hG2 := chg_setCell V1 ba 0 (.int .i64 at_)
  have ha3 := heap_setAt ha2 (i := 0) (.int .i64 at_)
  have hX3 := hG2.heap hX2 (fun e => by omega)
  have he3 := hG2.heap he2 (fun e => hae e.symm)
  have hx3 := hG2.heap HV1.out hxa
  generalize V1.setCell ⟨ba, 0, none⟩ (.int .i64 at_) = V2 at *
  have HG2 := Lib.hid hG2
  have HA3 := Lib.hid (show V2.heap[ba]? = some (.cells #[.int .i64 at_] 3 (0, 0)) from ha3)
  have HX3 := Lib.hid hx3
  clear x1 x2 x6 xg x7 xh hG2 ha3 hX2 ha2 he2 hx3
  have x1 := cell_at hX3 (i := 0) rfl
  have x2 := cell_at hX3 (i := 1) rfl
  have x7 := cell_at he3 (i := 0) rfl
  have xh := Lib.frozen_of_heap he3 0
  refine hK _ _ ⟨x1, x2⟩ ?_
  clear hK K
  refine lex_step rfl (fun K hK => ?_)
  go_wp2_with fail
  have hG3 := chg_setCell V2 be 0 (.int .i64 er)
  have he4 : (V2.setCell ⟨be, 0, none⟩ (.int .i64 er)).heap[be]? = some (.cells #[.int .i64 er] 32 (0, 0)) := heap_setAt he3 (i := 0) (.int .i64 er)
  have hX4 := hG3.heap hX3 (fun e => by omega)
  have ha4 := hG3.heap HA3.out hae
  have hx4 := hG3.heap HX3.out hxe
  refine hK _ _ ⟨cell_at hX4 (i := 0) rfl, cell_at hX4 (i := 1) rfl⟩ ?_
  refine lex_nil ?_
  have HFIN := Lib.hid (⟨hx4, ha4, he4, ((HF.out.trans HG1.out (fun _ _ e => Or.inl e)).trans HG2.out (fun _ _ e => Or.inr (Or.inl e))).trans hG3 (fun _ _ e => Or.inr (Or.inr e))⟩ : _ ∧ _ ∧ _ ∧ _)
  clear hG3 he4 hX4 ha4 hx4 x1 x2 x7 xh hX3 he3 hK
  generalize V2.setCell ⟨be, 0, none⟩ (.int .i64 er) = V3 at *
  go_wp2
  refine HQ.out _ _ _ ?_
  have hfin := HFIN.out
  cases c₀
  have := HU.out
  simp_all [bodyPostS, results, Tryz.results45]
end Go.Proofs.YtoahaigfjfeopaaGreatDoor
