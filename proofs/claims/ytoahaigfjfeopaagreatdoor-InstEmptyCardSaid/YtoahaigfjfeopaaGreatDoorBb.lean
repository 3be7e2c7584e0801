/- Regions that draw their order, walked in one order: steps that do not carry the region's text along. Plain lemmas over the model; no program. -/
import Derived.Test.YtoahaigfjfeopaaGreatDoorBa
import Derived.StillTailTactics
namespace Go.Proofs.YtoahaigfjfeopaaGreatDoor
open Go.RowKit

section
variable {P : Program} {ops : Array Oper} {w : World} {Q : Act → Prop} {a : Act} {o : Oper} {rest : List Oper}
theorem still_plain (hg : o.guard = none) (h : ∀ K : Act → Prop, (∀ a, wpStill P ops w Q rest a → K a) → o.still P a w K) : wpStill P ops w Q (o :: rest) a := by
  have hw : Region.wanted o (yielded ops a.tmps) = true := by simp [Region.wanted, hg]
  unfold wpStill
  rw [if_pos hw]
  exact h _ fun _ h => h
theorem still_on (i : Nat) (b : Bool) (oi : Oper) (d : Nat) (hg : o.guard = some (i, b)) (hoi : ops[i]? = some oi) (hd : oi.dst = some d) (hv : a.tmps[d]? = some (.bool b))
    (h : ∀ K : Act → Prop, (∀ a, wpStill P ops w Q rest a → K a) → o.still P a w K) : wpStill P ops w Q (o :: rest) a := by
  have hw : Region.wanted o (yielded ops a.tmps) = true := by simp [Region.wanted, hg, yielded, hoi, hd, hv]
  unfold wpStill
  rw [if_pos hw]
  exact h _ fun _ h => h
theorem still_off (i : Nat) (b c : Bool) (oi : Oper) (d : Nat) (hg : o.guard = some (i, b)) (hoi : ops[i]? = some oi) (hd : oi.dst = some d) (hv : a.tmps[d]? = some (.bool c)) (hbc : (c == b) = false)
    (h : ∀ K : Act → Prop, (∀ a, wpStill P ops w Q rest a → K a) → K (a.put o.dst undef)) : wpStill P ops w Q (o :: rest) a := by
  have hw : Region.wanted o (yielded ops a.tmps) = false := by
    simp only [Region.wanted, hg, yielded, hoi, hd, hv, Option.bind_some]
    cases b <;> cases c <;> simp_all
  unfold wpStill
  rw [if_neg (by rw [hw]; decide)]
  exact h _ fun _ h => h
/-- The slot's operation was guarded out: its own guard's slot is empty. -/
theorem still_dead (i : Nat) (b : Bool) (oi : Oper) (d : Nat) (hg : o.guard = some (i, b)) (hoi : ops[i]? = some oi) (hd : oi.dst = some d) (hv : a.tmps[d]? = some undef)
    (h : ∀ K : Act → Prop, (∀ a, wpStill P ops w Q rest a → K a) → K (a.put o.dst undef)) : wpStill P ops w Q (o :: rest) a := by
  have hw : Region.wanted o (yielded ops a.tmps) = false := by
    simp only [Region.wanted, hg, yielded, hoi, hd, hv, Option.bind_some, undef]
    cases b <;> simp
  unfold wpStill
  rw [if_neg (by rw [hw]; decide)]
  exact h _ fun _ h => h
end
theorem run_make_rowN {P : Program} (t e : TypeId) (i : TypeInfo) (z : Value) (ht : P.underlying t = some (.slice e)) (hi : P.info? e = some i) (hz : i.zero = some z)
    (kl kc : IntKind) (n c : Nat) (hnc : n ≤ c) (hbytes : i.bytes * c ≤ 281474976710656) (h63 : c ≤ 9223372036854775807) (w : World) :
    (Instr.makeSlice t (.int kl (n : Int)) (.int kc (c : Int))).run P w = .ok (.slice (some ⟨w.heap.size, 0, none⟩) n c) (w.alloc (.cells (madeCells z.cells (c * i.size)) e)) := by
  have hb : (i.bytes : Int) * (c : Int) ≤ 281474976710656 := by
    have h : ((i.bytes * c : Nat) : Int) ≤ 281474976710656 := by omega
    rwa [Int.natCast_mul] at h
  have hr := run_make (P := P) w t e i z ht hi hz kl kc n c (by omega) (by omega) hb (by omega)
  simp only [Int.toNat_natCast] at hr
  exact hr
theorem calls_turn {P : Program} {f : FuncId} {args : Array Value} {w : World} {v : Value} (h : Calls P f args w fun e w' => e = .returned v ∧ w = w') : Calls P f args w fun e w' => e = .returned v ∧ w' = w :=
  h.mono fun _ _ hh => ⟨hh.1, hh.2.symm⟩
end Go.Proofs.YtoahaigfjfeopaaGreatDoor
