/- What the rows' lists give a walk; a start that meets them. -/
import Derived.Test.YtoahaigfjfeopaaGreatDoorWh
import Derived.Test.YtoahaigfjfeopaaGreatDoorCards
import Derived.Test.YtoahaigfjfeopaaGreatDoorTie
import Derived.OpenShut
import Derived.Deep.DeepHandedRow
import Derived.Deep.DeepWitnessRowRef
import Derived.Lib.LaidTab
import Derived.Stop.LaidErr
import Derived.LaidMore
import Derived.Carry
namespace Go.Proofs.YtoahaigfjfeopaaGreatDoor
open Go.ChangeShapes Go.WideShapes Go.ChangeAt Go.RowKit

theorem own_knob : ownKnob Tryz.prog.godebug = none := by kernel_rfl
theorem laid_out : laidOutB Tryz.prog = true := by kernel_rfl
def strData {H : Type} (ls : List (List UInt8)) : DataW H := .agg (ls.map fun l => .lit (.string l))
/-- An array of strings that reads as listed holds those strings. -/
theorem cells_of_strs {H : Type} {enc : TypeId × Value → H} {P : Program} {w : World} {base : Nat} {sp : Nat → Bool} {held : Bool} {fuel : Nat} {t e : TypeId} {n : Nat} {cs : List Value} {ls : List (List UInt8)} {p : List MemPlace}
    (ht : P.underlying t = some (.array n e)) (he : P.underlying e = some .string) (hce : P.cellsOf e = 1) (hct : P.cellsOf t = n)
    (h : DataW.trod enc P w base sp held fuel t cs = some (strData ls, p)) : cs = ls.map fun l => Value.string ⟨l.toArray⟩ := by
  cases fuel with
  | zero => simp [DataW.trod] at h
  | succ fuel =>
    simp only [DataW.trod, ht, hce, hct, Nat.mul_one] at h
    split at h
    · rename_i hl
      obtain ⟨xs, hm, hx⟩ := Option.map_eq_some_iff.1 h
      have hxs : xs.map (·.1) = ls.map fun l => (DataW.lit (.string l) : DataW H) := by
        have := congrArg Prod.fst hx
        simpa [strData] using this
      have hxl : xs.length = n := by simpa using Lib.mapM_length hm
      have hzl : ls.length = n := by
        have := congrArg List.length hxs
        simp at this
        omega
      apply List.ext_getElem?
      intro i
      by_cases hi : i < n
      · obtain ⟨b, hb, hf⟩ := Lib.mapM_at hm i i (by simp [hi])
        obtain ⟨s, hc, rfl, _⟩ := DataW.trod_string he hf
        have h1 : cs[i]? = some (.string s) := by
          have := congrArg (·[0]?) hc
          simpa [List.getElem?_take, List.getElem?_drop] using this
        have h2 : (xs.map (·.1))[i]? = some (DataW.lit (.string s.data.toList) : DataW H) := by simp [hb]
        rw [hxs] at h2
        simp only [List.getElem?_map, Option.map_eq_some_iff, DataW.lit.injEq, Lit.string.injEq] at h2
        obtain ⟨l', hl', he'⟩ := h2
        simp [h1, hl', he']
      · rw [List.getElem?_eq_none (by omega), List.getElem?_eq_none (by simp; omega)]
    · cases h
theorem strs_of_head {P : Program} {W : World} {name : String} {ls : List (List UInt8)} {rest : List (String × DataW Unit)} {g : Nat} {t e : TypeId} {n : Nat}
    (hg : P.globalNamed name = some g) (hty : (P.globals[g]?).map (·.type) = some t) (ht : P.underlying t = some (.array n e)) (he : P.underlying e = some .string) (hce : P.cellsOf e = 1) (hct : P.cellsOf t = n)
    (h : laidMet P ((name, strData ls) :: rest) W) : ∃ t fr, W.heap[g]? = some (.cells (ls.map fun l => Value.string ⟨l.toArray⟩).toArray t fr) := by
  obtain ⟨ps, ⟨g', t', cs, fuel, p, q, hg', ht', hvar, hd, _, _⟩, _⟩ := h
  obtain rfl := Option.some.inj (hg.symm.trans hg')
  obtain rfl := Option.some.inj (hty.symm.trans ht')
  have hc := cells_of_strs ht he hce hct hd
  simp only [World.var?, hg, Option.bind_some] at hvar
  split at hvar
  · rename_i cs' t fr hh
    injection hvar with hvar
    subst hvar
    exact ⟨t, fr, by rw [hh, ← hc]⟩
  · cases hvar
theorem iface_of_head {P : Program} {W : World} {name nm : String} {d : DataW Unit} {rest : List (String × DataW Unit)} {g : Nat} {t : TypeId} {ms : Array (String × TypeId)}
    (hg : P.globalNamed name = some g) (hty : (P.globals[g]?).map (·.type) = some t) (ht : P.underlying t = some (.interface ms))
    (h : laidMet P ((name, .iface nm d) :: rest) W) : ∃ tp p, W.var? P name = some #[.iface tp p] := by
  obtain ⟨ps, ⟨g', t', cs, fuel, p, q, hg', ht', hvar, hd, _, _⟩, _⟩ := h
  obtain rfl := Option.some.inj (hg.symm.trans hg')
  obtain rfl := Option.some.inj (hty.symm.trans ht')
  obtain ⟨f1, u, v, hcs, _, _⟩ := iface_of_trod ht hd
  exact ⟨u, v, by rw [hvar]; congr 1; exact Array.ext' hcs⟩
theorem size_of_head {P : Program} {W : World} {name : String} {d : DataW Unit} {rest : List (String × DataW Unit)} {g : Nat} (hg : P.globalNamed name = some g) (h : laidMet P ((name, d) :: rest) W) : g < W.heap.size := by
  obtain ⟨ps, ⟨g', t', cs, fuel, p, q, hg', ht', hvar, hd, _, _⟩, _⟩ := h
  obtain rfl := Option.some.inj (hg.symm.trans hg')
  simp only [World.var?, hg, Option.bind_some] at hvar
  split at hvar
  · rename_i hh; exact (Array.getElem?_eq_some_iff.1 hh).1
  · cases hvar
def rowLaid : List (String × DataW Unit) := [("math/bits.deBruijn32tab", Rows.laid_math_bits_deBruijn32tab), ("math/bits.deBruijn64tab", Rows.laid_math_bits_deBruijn64tab), ("internal/strconv.uint64pow10", Rows.laid_internal_strconv_uint64pow10), ("strconv.ErrRange", Rows.laid_strconv_ErrRange), ("strconv.ErrSyntax", Rows.laid_strconv_ErrSyntax), ("arborist/inst.words", Rows.laid_arborist_inst_words), ("arborist/inst.hows", Rows.laid_arborist_inst_hows)]
theorem env_of_laid {W : World} (h : laidMetH Tryz.prog rowLaid W) : Env W := by
  have h1 : laidMet Tryz.prog rowLaid W := h
  have h2 := h1.tail
  have h3 := h2.tail
  have h4 := h3.tail
  have h5 := h4.tail
  have h6 := h5.tail
  have h7 := h6.tail
  exact ⟨strs_of_head (g := 0) (t := 100) (ls := wordsT) (by kernel_rfl) (by kernel_rfl) Tryz.underlying100 Tryz.underlying9 (by kernel_rfl) (by kernel_rfl) h6,
    strs_of_head (g := 1) (t := 102) (ls := howsT) (by kernel_rfl) (by kernel_rfl) Tryz.underlying102 Tryz.underlying9 (by kernel_rfl) (by kernel_rfl) h7,
    Lib.tabIs_of_head (g := 2) (t := 149) (by kernel_rfl) (by kernel_rfl) Tryz.underlying149 Tryz.underlying142 (by kernel_rfl) (by kernel_rfl) h3,
    iface_of_head (g := 4) (t := 63) (by kernel_rfl) (by kernel_rfl) Tryz.underlying63 h5,
    iface_of_head (g := 5) (t := 63) (by kernel_rfl) (by kernel_rfl) Tryz.underlying63 h4,
    size_of_head (g := 7) (by kernel_rfl) h2⟩
theorem laid_met (os : Os) (args : Array Value) : laidMet Tryz.prog rowLaid ((World.doorLaid Tryz.prog 200 os).forCall (fun _ _ => 0) ⟨#[], args, []⟩).memory :=
  laidMet_of_run' 8 (by kernel_rfl) (by kernel_rfl)
end Go.Proofs.YtoahaigfjfeopaaGreatDoor
