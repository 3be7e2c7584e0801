/- From a contract 'true, and what was there stands' to the form's claims; a slice of bytes opened. -/
import Derived.Test.YtoahaigfjfeopaaGreatDoorRa
import Derived.Test.YtoahaigfjfeopaaGreatDoorBa
namespace Go.Proofs.YtoahaigfjfeopaaGreatDoor
open Go.ChangeShapes Go.WideShapes Go.ChangeAt Go.RowKit

/-- One argument, the answer true: what 'post' asks. -/
theorem post_true1 {H : Type} {enc : TypeId × Value → H} {f : Func} {s : ChangeSpec} {W W' : World} {t : TypeId} {v0 : Value} {d0 : DataW H} {p0 : List MemPlace}
    (hp : f.params = #[t]) (hr : f.resultTypes = #[4]) (hsv : s.vars = []) (hfn : s.fn H [d0] = { results := [.lit (.bool true)], args := [d0] })
    (hrd : Tryz.prog.readableRec t = true) (ht : t < Tryz.prog.types.size)
    (h0 : DataW.Trod enc Tryz.prog W 0 (fun _ => true) true t v0 d0 p0)
    (hW : DataW.Whole enc Tryz.prog f.params.toList s.vars false W #[v0].toList [d0] [] p0) (hb : Below W.heap.size W W') :
    s.post enc Tryz.prog f false true false false W #[v0] (.bool true) W' := by
  have hlt : ∀ x ∈ p0, x.block < W.heap.size := fun x hx => by simpa using hW.lt x hx
  refine ⟨[d0], [], p0, [], p0 ++ [], [], by simpa using hW, ?_, ?_, ?_, hb.frame _, fun h => by cases h⟩
  · rw [hr, show ([d0] ++ [] : List (DataW H)) = [d0] from rfl, hfn]
    exact trodAll_cons_mk (shut_bool Tryz.underlying4 _) trodAll_mk0
  · rw [hp, show ([d0] ++ [] : List (DataW H)) = [d0] from rfl, hfn]
    exact trodAll_cons_mk (Below.trod laid_out hrd ht h0 hb hlt) trodAll_mk0
  · rw [hsv, show ([d0] ++ [] : List (DataW H)) = [d0] from rfl, hfn]
    exact rfl
set_option maxRecDepth 100000 in
/-- A slice of bytes, as it is handed in. -/
theorem open_bytes {H : Type} {enc : TypeId × Value → H} {W : World} {base : Nat} {sp : Nat → Bool} {v : Value} {d : DataW H} {ps : List MemPlace}
    (hv : Value.okWide Tryz.prog W .any base 39 v) (h : DataW.Trod enc Tryz.prog W 0 sp true 39 v d ps) (hsz : (DataW.weightsEach Tryz.prog [39] [d]).all (· ≤ reachBytes) = true) :
    ∃ xs, Sl (Kd.int .u8) W (fun _ => True) v xs ∧ ∀ k, k < xs.length → 0 ≤ nth 0 xs k ∧ nth 0 xs k ≤ 255 := by
  obtain ⟨a0, len, cap, rfl⟩ := okWide_slice Tryz.underlying39 hv
  obtain ⟨fuel, hf⟩ := h
  rcases open_ints Tryz.underlying39 Tryz.underlying5 (by kernel_rfl) hf with ⟨hcs, _⟩ | ⟨a, len', cap', zs, hcs, _, hl, hm, hz, hx, hcell, hwz⟩
  · simp [Value.cells] at hcs
    obtain ⟨rfl, rfl, rfl⟩ := hcs
    exact ⟨[], ⟨none, 0, rfl, Nat.le_refl _, by simp, fun j x hx => by simp at hx⟩, fun k hk => by simp at hk⟩
  · simp [Value.cells] at hcs
    obtain ⟨rfl, rfl, rfl⟩ := hcs
    simp only [Prod.mk.injEq] at hx
    obtain ⟨rfl, _⟩ := hx
    have hzl : len ≤ zs.length := by rw [hz]; split <;> omega
    have htl : (zs.take len).length = len := by rw [List.length_take]; omega
    have hlen : len ≤ 140737488355328 := by
      simp [DataW.weightsEach, DataW.weights, Tryz.underlying39, show Tryz.prog.bytesOf 5 = 1 from by kernel_rfl, lits, reachBytes] at hsz
      have := of_decide_eq_true hsz.1
      omega
    refine ⟨zs.take len, ⟨some a, cap, by rw [htl], by rw [htl]; exact hl, by rw [htl]; exact hlen, fun j x hx => ?_⟩, fun k hk => ?_⟩
    · have hj : j < len := by have := (List.getElem?_eq_some_iff.1 hx).1; omega
      have hc := hcell j (by omega)
      obtain ⟨b, o, spot⟩ := a
      have hspot : spot = none := by simpa [Addr.add] using World.cell?_spot (hcell 0 (by omega))
      subst hspot
      rw [List.getElem?_take_of_lt hj] at hx
      have hx' : zs.getD j 0 = x := by rw [List.getD_eq_getElem?_getD, hx]; rfl
      rw [hx'] at hc
      refine ⟨b, o, [.int .u8 x], rfl, trivial, rfl, fun i u hu => ?_⟩
      have hi : i = 0 := by have := (List.getElem?_eq_some_iff.1 hu).1; simp at this; exact this
      subst hi
      simp at hu
      subst hu
      have e : (⟨b, o, none⟩ : Addr).add j = ⟨b, o + (j * (Kd.int .u8).sz + 0), none⟩ := by
        simp only [Kd.int, Kd.scalar, Nat.mul_one, Nat.add_zero]
        unfold Addr.add; split <;> simp_all
      rw [e] at hc
      exact hc
    · rw [htl] at hk
      have hk2 : k < zs.length := by omega
      have hm : zs[k] ∈ zs := List.getElem_mem hk2
      have := hwz _ hm
      have he : nth 0 (zs.take len) k = zs[k] := by simp [nth, List.getD_eq_getElem?_getD, List.getElem?_take_of_lt hk, List.getElem?_eq_getElem hk2]
      rw [he]
      simpa [Lit.wf, IntKind.min, IntKind.max, IntKind.signed, IntKind.bits] using this
end Go.Proofs.YtoahaigfjfeopaaGreatDoor
