/- inst.parser: scope. -/
import Derived.Test.YtoahaigfjfeopaaGreatDoorWv
import Derived.Deep.LoopGhost
import Derived.Outline
namespace Go.Proofs.YtoahaigfjfeopaaGreatDoor
open Go.RowKit
attribute [local irreducible] wpStill

theorem varQ_ok {nd : Nat} {l l' : List Int} {t : Tok} {r r' : List Tok} (h : varQ nd l (t :: r) = .ok (l', r')) : t.kind = 2 ∧ r' = r ∧ l' = l ++ [t.n] ∧ l.length < 6 := by
  by_cases hk : (t.kind == 2) = true
  · by_cases hsm : smallB t.n 1000000000000 = true
    · simp only [varQ, numberQ, hk, hsm, if_true] at h
      split at h
      · cases h
      · split at h
        · injection h with h
          injection h with h1 h2
          exact ⟨by simpa using hk, h2.symm, h1.symm, by omega⟩
        · cases h
    · simp [varQ, numberQ, hk, hsm] at h
  · simp [varQ, numberQ, hk] at h
theorem scopeQ_err {nd : Nat} {l : List Int} {t : Tok} {r : List Tok} {e : Int × Int} (h0 : l.length = 0 ∨ t.kind = 2) (h : varQ nd l (t :: r) = .error e) : scopeQ nd (t :: r) l = .error e := by
  rw [scopeQ, if_neg (by omega), h]
theorem scopeQ_ok {nd : Nat} {l : List Int} {t : Tok} {r : List Tok} {p : List Int × List Tok} (h0 : l.length = 0 ∨ t.kind = 2) (h : varQ nd l (t :: r) = .ok p) : scopeQ nd (t :: r) l = scopeQ nd r p.1 := by
  rw [scopeQ, if_neg (by omega), h]
/-- The row of a scope, and what is left. -/
def ScopeOut (g base : Nat) (w' : World) (dv hv sv : Value) (e : Ending) (l' : List Int) (r' : List Tok) : Prop :=
  ∃ v', e = .returned v' ∧ OwnI base v' l' w' ∧ l'.length ≤ 6 ∧ 0 < l'.length ∧ PB g w' r' dv hv sv ∧ Toks r'
def ScopeRel (g : Nat) (w : World) (dv hv sv : Value) (nd : Nat) (ts : List Tok) (k : Nat) (v : Value) (wr : World) : Prop :=
  ∃ t r l, k = (t :: r).length ∧ scopeQ nd ts [] = scopeQ nd (t :: r) l ∧ OwnI w.heap.size v l wr ∧ l.length ≤ 6 ∧ PB g wr (t :: r) dv hv sv ∧ Toks (t :: r) ∧ Chg (fun k => k = g) w wr

set_option maxRecDepth 100000 in
set_option maxHeartbeats 4000000 in
theorem scope_p (g : Nat) (w : World) (ts : List Tok) (DA : Option Addr) (nd Dc : Nat) (hv sv : Value) (h : PB g w ts (.slice DA nd Dc) hv sv) (hT : Toks ts) (hnd : nd ≤ 140737488355328) :
    Calls Tryz.prog 102 #[.pointer (some ⟨g, 0, none⟩)] w fun e w' => Out (scopeQ nd ts []) (ScopeOut g w.heap.size w' (.slice DA nd Dc) hv sv e) e ∧ Chg (fun k => k = g) w w' := by
  have hgw := h.lt
  obtain ⟨t, r, rfl⟩ := hT.cons
  have H := Lib.hid h
  have HT := Lib.hid hT
  clear h hT
  go_enter Tryz.func102, Tryz.ntmps102
  go_wp2
  go_loopg [2] (t :: r).length (fun k v wr => ScopeRel g w (.slice DA nd Dc) hv sv nd (t :: r) k v wr)
  case atStart => exact ⟨t, r, [], rfl, rfl, World.ownsRow_nil _ _ _ _, by simp, H.out, HT.out, Chg.refl _ _⟩
  case round =>
    clear H HT
    obtain ⟨t2, r2, l, hk, hq, hl, hle, hp, hT, hch⟩ := hrel
    subst hk
    have hlS := hl.sl (by omega)
    obtain ⟨A, c, rfl, hc, hm, _⟩ := hlS
    have HQ := Lib.hid hq
    have HL := Lib.hid hl
    have HP := Lib.hid hp
    have HT := Lib.hid hT
    have HG := Lib.hid hch
    have hbs := hch.size
    have hvc := Lib.hid (variable_p g w.heap.size wr t2 r2 DA nd Dc hv sv l _ hp hnd hgw hbs hl hle)
    have hmc := Lib.hid (more_any g wr t2 r2 _ _ _ hp)
    clear hq hl hp hT hch
    by_cases hout : ¬ l.length = 0 ∧ ¬ t2.kind = 2
    · obtain ⟨h0, h2⟩ := hout
      have hb0 : ((l.length : Int) == 0) = false := beq_eq_false_iff_ne.2 (by omega)
      have hb2 : (t2.kind == 2) = false := beq_eq_false_iff_ne.2 h2
      have HR : Hid (scopeQ nd (t :: r) [] = .ok (l, t2 :: r2)) := Lib.hid (by rw [HQ.out]; unfold scopeQ; rw [if_pos ⟨h0, h2⟩])
      go_wp2_with (go_at_call 100; refine hmc.out.mono ?_; rintro e w' ⟨rfl, rfl⟩)
      go_ret
      refine ⟨?_, HG.out⟩
      rw [HR.out]
      exact ⟨_, rfl, HL.out, hle, by omega, HP.out, HT.out⟩
    · have hway : l.length = 0 ∨ (0 < l.length ∧ t2.kind = 2) := by omega
      have hway2 : l.length = 0 ∨ t2.kind = 2 := by omega
      clear hout
      have hch2 : ∀ w', Chg (fun k => k = g ∨ (Value.slice A l.length c).ownBlock = some k) wr w' → Chg (fun k => k = g) w w' := fun w' h => HG.out.trans h (fun j hj hs => by
        rcases hs with hs | hs
        · exact hs
        · have := (HL.out.lt j hs).1; omega)
      have HC := Lib.hid hch2
      clear hch2
      rcases hv : varQ nd l (t2 :: r2) with ⟨p, x⟩ | ⟨l', r'⟩
      · have HR : Hid (scopeQ nd (t :: r) [] = .error (p, x)) := Lib.hid (by rw [HQ.out]; exact scopeQ_err hway2 hv)
        rw [hv] at hvc
        rcases hway with h0 | ⟨h0, h2⟩
        · have hb0 : ((l.length : Int) == 0) = true := beq_iff_eq.2 (by omega)
          clear hv h0 hway2
          go_wp2_with (go_at_call 117; refine hvc.out.mono ?_; rintro e w' ⟨he, hg⟩; obtain rfl : e = wrongs p x := he; refine ⟨rfl, ?_⟩; rw [HR.out]; exact ⟨rfl, HC.out _ hg⟩)
        · have hb0 : ((l.length : Int) == 0) = false := beq_eq_false_iff_ne.2 (by omega)
          have hb2 : (t2.kind == 2) = true := beq_iff_eq.2 h2
          clear hv h2 hway2
          go_wp2_with (first
            | (go_at_call 100; refine hmc.out.mono ?_; rintro e w' ⟨rfl, rfl⟩)
            | (go_at_call 117; refine hvc.out.mono ?_; rintro e w' ⟨he, hg⟩; obtain rfl : e = wrongs p x := he; refine ⟨rfl, ?_⟩; rw [HR.out]; exact ⟨rfl, HC.out _ hg⟩))
      · obtain ⟨hk2, rfl, hl', hl6⟩ := varQ_ok hv
        have HR : Hid (scopeQ nd (t :: r) [] = scopeQ nd r' l') := Lib.hid (by rw [HQ.out]; exact scopeQ_ok hway2 hv)
        have HT2 := Lib.hid (HT.out.tail (by omega))
        have hl6' : l'.length ≤ 6 := by rw [hl']; simp; omega
        have HL' := Lib.hid hl'
        rw [hv] at hvc
        obtain ⟨t3, r3, rfl⟩ := HT2.out.cons
        rcases hway with h0 | ⟨h0, h2⟩
        · have hb0 : ((l.length : Int) == 0) = true := beq_iff_eq.2 (by omega)
          clear hv h0 hway2 hk2 hl'
          go_wp2_with (go_at_call 117; refine hvc.out.mono ?_; rintro e w' ⟨⟨v', rfl, ho', hp', _⟩, hg⟩; (have HO' := Lib.hid ho'); (have HP' := Lib.hid hp'); (have HG' := Lib.hid hg); clear ho' hp' hg)
          go_roundg (t3 :: r3).length
          case rel => exact ⟨t3, r3, l', rfl, HR.out, HO'.out, hl6', HP'.out, HT2.out, HC.out _ HG'.out⟩
          case measure => simp
        · have hb0 : ((l.length : Int) == 0) = false := beq_eq_false_iff_ne.2 (by omega)
          have hb2 : (t2.kind == 2) = true := beq_iff_eq.2 h2
          clear hv h2 hway2 hk2 hl'
          go_wp2_with (first
            | (go_at_call 100; refine hmc.out.mono ?_; rintro e w' ⟨rfl, rfl⟩)
            | (go_at_call 117; refine hvc.out.mono ?_; rintro e w' ⟨⟨v', rfl, ho', hp', _⟩, hg⟩; (have HO' := Lib.hid ho'); (have HP' := Lib.hid hp'); (have HG' := Lib.hid hg); clear ho' hp' hg))
          go_roundg (t3 :: r3).length
          case rel => exact ⟨t3, r3, l', rfl, HR.out, HO'.out, hl6', HP'.out, HT2.out, HC.out _ HG'.out⟩
          case measure => simp
end Go.Proofs.YtoahaigfjfeopaaGreatDoor
