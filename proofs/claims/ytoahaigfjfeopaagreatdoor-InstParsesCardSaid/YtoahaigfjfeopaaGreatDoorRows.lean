/-
  NARROWER THAN 'FOR EVERY INPUT', by the rows' own cells (each row's printed sentence says how): InstRights: laid · InstParses: laid · InstBack: laid · InstReads: laid · InstBehind: laid · InstMoves: laid · InstMany: laid · InstEmpty: laid.
  DERIVED. THE GIVEN ROWS OF THIS SEAT. 8 by the template 'for every input the law returns true; each argument reads behind the call as it read before'; 0 by the template 'total and deterministic' (their statements: YtoahaigfjfeopaaGreatDoorTotals.lean).
  GIVEN WITH THE SEED: the statements are not yours to turn. If you find one false, say at which input.
  Laid BY PROGRAM, IN A SANDBOX (cutbox-rows.mjs): the forced cells as the released guide's own fill.sh prints them over the translation 0812c7108da3f805… (all of the seat's roots in one cut). By AI agents, Wed Nov 11 2026. No macro, syntax, notation, axiom, sorry.
-/
import Derived.Test.YtoahaigfjfeopaaGreatDoorChecked
import GoSem.Claim
import GoSem.ClaimJoined
import GoSem.ClaimMapViews
import Derived.JoinedTies
import Derived.KernelRfl
namespace Go.Proofs.YtoahaigfjfeopaaGreatDoor
/- THE CELL 'sum', in the pinned program and in every row, IS THE sha256 OF THE DUMP (.gsa) THAT YtoahaigfjfeopaaGreatDoorProg.lean LOADS. Nothing in Lean hashes anything: it is a label: what it is worth is what the hold of that sum in a sandbox is worth. -/
noncomputable def Tryz.pinned : Pinned := { name := "ytoahaigfjfeopaagreatdoor", sum := "0812c7108da3f805dc4f1ec86c220285c116597b9c75cda5def7c424c95d03a7", checked := Tryz.checked }
namespace Rows
def none {H : Type} : Left H := { results := [], args := [] }

/- WHAT THE LISTED PACKAGE-LEVEL VARIABLES READ AS WHEN THE CALL BEGINS. Each datum BY PROGRAM (the guide's laid-datum.mjs) off the statement by which the dump's own 'gosem.cut.vars' lays the variable. In a bare row this is a premise. The card (YtoahaigfjfeopaaGreatDoorCards.lean) ties it to the program's text. -/
def laid_math_bits_deBruijn32tab {H : Type} : DataW H := .agg [.lit (.int .u8 0), .lit (.int .u8 1), .lit (.int .u8 28), .lit (.int .u8 2), .lit (.int .u8 29), .lit (.int .u8 14), .lit (.int .u8 24), .lit (.int .u8 3), .lit (.int .u8 30), .lit (.int .u8 22), .lit (.int .u8 20), .lit (.int .u8 15), .lit (.int .u8 25), .lit (.int .u8 17), .lit (.int .u8 4), .lit (.int .u8 8), .lit (.int .u8 31), .lit (.int .u8 27), .lit (.int .u8 13), .lit (.int .u8 23), .lit (.int .u8 21), .lit (.int .u8 19), .lit (.int .u8 16), .lit (.int .u8 7), .lit (.int .u8 26), .lit (.int .u8 12), .lit (.int .u8 18), .lit (.int .u8 6), .lit (.int .u8 11), .lit (.int .u8 5), .lit (.int .u8 10), .lit (.int .u8 9)]
def laid_math_bits_deBruijn64tab {H : Type} : DataW H := .agg [.lit (.int .u8 0), .lit (.int .u8 1), .lit (.int .u8 56), .lit (.int .u8 2), .lit (.int .u8 57), .lit (.int .u8 49), .lit (.int .u8 28), .lit (.int .u8 3), .lit (.int .u8 61), .lit (.int .u8 58), .lit (.int .u8 42), .lit (.int .u8 50), .lit (.int .u8 38), .lit (.int .u8 29), .lit (.int .u8 17), .lit (.int .u8 4), .lit (.int .u8 62), .lit (.int .u8 47), .lit (.int .u8 59), .lit (.int .u8 36), .lit (.int .u8 45), .lit (.int .u8 43), .lit (.int .u8 51), .lit (.int .u8 22), .lit (.int .u8 53), .lit (.int .u8 39), .lit (.int .u8 33), .lit (.int .u8 30), .lit (.int .u8 24), .lit (.int .u8 18), .lit (.int .u8 12), .lit (.int .u8 5), .lit (.int .u8 63), .lit (.int .u8 55), .lit (.int .u8 48), .lit (.int .u8 27), .lit (.int .u8 60), .lit (.int .u8 41), .lit (.int .u8 37), .lit (.int .u8 16), .lit (.int .u8 46), .lit (.int .u8 35), .lit (.int .u8 44), .lit (.int .u8 21), .lit (.int .u8 52), .lit (.int .u8 32), .lit (.int .u8 23), .lit (.int .u8 11), .lit (.int .u8 54), .lit (.int .u8 26), .lit (.int .u8 40), .lit (.int .u8 15), .lit (.int .u8 34), .lit (.int .u8 20), .lit (.int .u8 31), .lit (.int .u8 10), .lit (.int .u8 25), .lit (.int .u8 14), .lit (.int .u8 19), .lit (.int .u8 9), .lit (.int .u8 13), .lit (.int .u8 8), .lit (.int .u8 7), .lit (.int .u8 6)]
def laid_internal_strconv_uint64pow10 {H : Type} : DataW H := .agg [.lit (.int .u64 1), .lit (.int .u64 10), .lit (.int .u64 100), .lit (.int .u64 1000), .lit (.int .u64 10000), .lit (.int .u64 100000), .lit (.int .u64 1000000), .lit (.int .u64 10000000), .lit (.int .u64 100000000), .lit (.int .u64 1000000000), .lit (.int .u64 10000000000), .lit (.int .u64 100000000000), .lit (.int .u64 1000000000000), .lit (.int .u64 10000000000000), .lit (.int .u64 100000000000000), .lit (.int .u64 1000000000000000), .lit (.int .u64 10000000000000000), .lit (.int .u64 100000000000000000), .lit (.int .u64 1000000000000000000), .lit (.int .u64 10000000000000000000)]
def laid_strconv_ErrRange {H : Type} : DataW H := .iface "*errors.errorString" (.ptr (.agg [.lit (.string [118, 97, 108, 117, 101, 32, 111, 117, 116, 32, 111, 102, 32, 114, 97, 110, 103, 101])]))
def laid_strconv_ErrSyntax {H : Type} : DataW H := .iface "*errors.errorString" (.ptr (.agg [.lit (.string [105, 110, 118, 97, 108, 105, 100, 32, 115, 121, 110, 116, 97, 120])]))
def laid_arborist_inst_words {H : Type} : DataW H := .agg [.lit (.string []), .lit (.string [116, 97, 98, 108, 101]), .lit (.string [102, 111, 114, 98, 105, 100]), .lit (.string [100, 105, 102, 102]), .lit (.string [101, 113, 117, 97, 108]), .lit (.string [114, 105, 115, 105, 110, 103]), .lit (.string [108, 105, 110, 101, 97, 114])]
def laid_arborist_inst_hows {H : Type} : DataW H := .agg [.lit (.string [101, 113]), .lit (.string [108, 101]), .lit (.string [110, 101])]

/-- 'arboristlaw06.InstRights': WHATEVER THE INPUT: true; the input reads as it did. -/
def instRightsSpec : ChangeSpec := { name := "instRights", fn := fun _ => fun
  | [d] => { results := [.lit (.bool true)], args := [d] }
  | _ => none }
def instRightsRow : OpenClaim := { program := "ytoahaigfjfeopaagreatdoor", sum := "0812c7108da3f805dc4f1ec86c220285c116597b9c75cda5def7c424c95d03a7", func := "arborist/arboristlaw06.InstRights", spec := "instRights", inPlace := ["internal/bytealg.IndexByteString", "internal/abi.NoEscape"], unfollowed := true, recurses := true, named := ["strconv.ErrSyntax", "strconv.ErrRange", "internal/strconv.uint64pow10", "math/bits.deBruijn32tab", "math/bits.deBruijn64tab", "arborist/inst.words", "arborist/inst.hows"], apart := false, laid := [("math/bits.deBruijn32tab", laid_math_bits_deBruijn32tab), ("math/bits.deBruijn64tab", laid_math_bits_deBruijn64tab), ("internal/strconv.uint64pow10", laid_internal_strconv_uint64pow10), ("strconv.ErrRange", laid_strconv_ErrRange), ("strconv.ErrSyntax", laid_strconv_ErrSyntax), ("arborist/inst.words", laid_arborist_inst_words), ("arborist/inst.hows", laid_arborist_inst_hows)] }
def InstRightsSaid : Prop := instRightsRow.holds Tryz.pinned (OpenSpec.ofChange instRightsSpec)

/-- ITS FALSE NEIGHBOUR: 'it returns false'. Refute it at one input. -/
def instRightsWrong : ChangeSpec := { name := "instRights", fn := fun _ => fun
  | [d] => { results := [.lit (.bool false)], args := [d] }
  | _ => none }
def InstRightsWrongFalsely : Prop := instRightsRow.holds Tryz.pinned (OpenSpec.ofChange instRightsWrong)

/-- 'arboristlaw06.InstParses': WHATEVER THE INPUT: true; the input reads as it did. -/
def instParsesSpec : ChangeSpec := { name := "instParses", fn := fun _ => fun
  | [d] => { results := [.lit (.bool true)], args := [d] }
  | _ => none }
def instParsesRow : OpenClaim := { program := "ytoahaigfjfeopaagreatdoor", sum := "0812c7108da3f805dc4f1ec86c220285c116597b9c75cda5def7c424c95d03a7", func := "arborist/arboristlaw06.InstParses", spec := "instParses", inPlace := ["internal/bytealg.IndexByteString", "internal/abi.NoEscape"], unfollowed := true, recurses := true, named := ["strconv.ErrSyntax", "strconv.ErrRange", "internal/strconv.uint64pow10", "math/bits.deBruijn32tab", "math/bits.deBruijn64tab", "arborist/inst.words", "arborist/inst.hows"], apart := false, laid := [("math/bits.deBruijn32tab", laid_math_bits_deBruijn32tab), ("math/bits.deBruijn64tab", laid_math_bits_deBruijn64tab), ("internal/strconv.uint64pow10", laid_internal_strconv_uint64pow10), ("strconv.ErrRange", laid_strconv_ErrRange), ("strconv.ErrSyntax", laid_strconv_ErrSyntax), ("arborist/inst.words", laid_arborist_inst_words), ("arborist/inst.hows", laid_arborist_inst_hows)] }
def InstParsesSaid : Prop := instParsesRow.holds Tryz.pinned (OpenSpec.ofChange instParsesSpec)

/-- ITS FALSE NEIGHBOUR: 'it returns false'. Refute it at one input. -/
def instParsesWrong : ChangeSpec := { name := "instParses", fn := fun _ => fun
  | [d] => { results := [.lit (.bool false)], args := [d] }
  | _ => none }
def InstParsesWrongFalsely : Prop := instParsesRow.holds Tryz.pinned (OpenSpec.ofChange instParsesWrong)

/-- 'arboristlaw06.InstBack': WHATEVER THE INPUT: true; the input reads as it did. -/
def instBackSpec : ChangeSpec := { name := "instBack", fn := fun _ => fun
  | [d] => { results := [.lit (.bool true)], args := [d] }
  | _ => none }
def instBackRow : OpenClaim := { program := "ytoahaigfjfeopaagreatdoor", sum := "0812c7108da3f805dc4f1ec86c220285c116597b9c75cda5def7c424c95d03a7", func := "arborist/arboristlaw06.InstBack", spec := "instBack", inPlace := ["internal/bytealg.IndexByteString", "internal/abi.NoEscape"], unfollowed := true, recurses := true, named := ["strconv.ErrSyntax", "strconv.ErrRange", "internal/strconv.uint64pow10", "math/bits.deBruijn32tab", "math/bits.deBruijn64tab", "arborist/inst.words", "arborist/inst.hows"], apart := false, laid := [("math/bits.deBruijn32tab", laid_math_bits_deBruijn32tab), ("math/bits.deBruijn64tab", laid_math_bits_deBruijn64tab), ("internal/strconv.uint64pow10", laid_internal_strconv_uint64pow10), ("strconv.ErrRange", laid_strconv_ErrRange), ("strconv.ErrSyntax", laid_strconv_ErrSyntax), ("arborist/inst.words", laid_arborist_inst_words), ("arborist/inst.hows", laid_arborist_inst_hows)] }
def InstBackSaid : Prop := instBackRow.holds Tryz.pinned (OpenSpec.ofChange instBackSpec)

/-- ITS FALSE NEIGHBOUR: 'it returns false'. Refute it at one input. -/
def instBackWrong : ChangeSpec := { name := "instBack", fn := fun _ => fun
  | [d] => { results := [.lit (.bool false)], args := [d] }
  | _ => none }
def InstBackWrongFalsely : Prop := instBackRow.holds Tryz.pinned (OpenSpec.ofChange instBackWrong)

/-- 'arboristlaw06.InstReads': WHATEVER THE INPUT: true; the input reads as it did. -/
def instReadsSpec : ChangeSpec := { name := "instReads", fn := fun _ => fun
  | [d] => { results := [.lit (.bool true)], args := [d] }
  | _ => none }
def instReadsRow : OpenClaim := { program := "ytoahaigfjfeopaagreatdoor", sum := "0812c7108da3f805dc4f1ec86c220285c116597b9c75cda5def7c424c95d03a7", func := "arborist/arboristlaw06.InstReads", spec := "instReads", inPlace := ["internal/bytealg.IndexByteString", "internal/abi.NoEscape"], unfollowed := true, recurses := true, named := ["strconv.ErrSyntax", "strconv.ErrRange", "internal/strconv.uint64pow10", "math/bits.deBruijn32tab", "math/bits.deBruijn64tab", "arborist/inst.words", "arborist/inst.hows"], apart := false, laid := [("math/bits.deBruijn32tab", laid_math_bits_deBruijn32tab), ("math/bits.deBruijn64tab", laid_math_bits_deBruijn64tab), ("internal/strconv.uint64pow10", laid_internal_strconv_uint64pow10), ("strconv.ErrRange", laid_strconv_ErrRange), ("strconv.ErrSyntax", laid_strconv_ErrSyntax), ("arborist/inst.words", laid_arborist_inst_words), ("arborist/inst.hows", laid_arborist_inst_hows)] }
def InstReadsSaid : Prop := instReadsRow.holds Tryz.pinned (OpenSpec.ofChange instReadsSpec)

/-- ITS FALSE NEIGHBOUR: 'it returns false'. Refute it at one input. -/
def instReadsWrong : ChangeSpec := { name := "instReads", fn := fun _ => fun
  | [d] => { results := [.lit (.bool false)], args := [d] }
  | _ => none }
def InstReadsWrongFalsely : Prop := instReadsRow.holds Tryz.pinned (OpenSpec.ofChange instReadsWrong)

/-- 'arboristlaw06.InstBehind': WHATEVER THE INPUT: true; the input reads as it did. -/
def instBehindSpec : ChangeSpec := { name := "instBehind", fn := fun _ => fun
  | [d1, d2] => { results := [.lit (.bool true)], args := [d1, d2] }
  | _ => none }
def instBehindRow : OpenClaim := { program := "ytoahaigfjfeopaagreatdoor", sum := "0812c7108da3f805dc4f1ec86c220285c116597b9c75cda5def7c424c95d03a7", func := "arborist/arboristlaw06.InstBehind", spec := "instBehind", inPlace := ["internal/bytealg.IndexByteString", "internal/abi.NoEscape"], unfollowed := true, recurses := true, named := ["strconv.ErrSyntax", "strconv.ErrRange", "internal/strconv.uint64pow10", "math/bits.deBruijn32tab", "math/bits.deBruijn64tab", "arborist/inst.words", "arborist/inst.hows"], apart := false, laid := [("math/bits.deBruijn32tab", laid_math_bits_deBruijn32tab), ("math/bits.deBruijn64tab", laid_math_bits_deBruijn64tab), ("internal/strconv.uint64pow10", laid_internal_strconv_uint64pow10), ("strconv.ErrRange", laid_strconv_ErrRange), ("strconv.ErrSyntax", laid_strconv_ErrSyntax), ("arborist/inst.words", laid_arborist_inst_words), ("arborist/inst.hows", laid_arborist_inst_hows)] }
def InstBehindSaid : Prop := instBehindRow.holds Tryz.pinned (OpenSpec.ofChange instBehindSpec)

/-- ITS FALSE NEIGHBOUR: 'it returns false'. Refute it at one input. -/
def instBehindWrong : ChangeSpec := { name := "instBehind", fn := fun _ => fun
  | [d1, d2] => { results := [.lit (.bool false)], args := [d1, d2] }
  | _ => none }
def InstBehindWrongFalsely : Prop := instBehindRow.holds Tryz.pinned (OpenSpec.ofChange instBehindWrong)

/-- 'arboristlaw06.InstMoves': WHATEVER THE INPUT: true; the input reads as it did. -/
def instMovesSpec : ChangeSpec := { name := "instMoves", fn := fun _ => fun
  | [d] => { results := [.lit (.bool true)], args := [d] }
  | _ => none }
def instMovesRow : OpenClaim := { program := "ytoahaigfjfeopaagreatdoor", sum := "0812c7108da3f805dc4f1ec86c220285c116597b9c75cda5def7c424c95d03a7", func := "arborist/arboristlaw06.InstMoves", spec := "instMoves", inPlace := ["internal/bytealg.IndexByteString", "internal/abi.NoEscape"], unfollowed := true, recurses := true, named := ["strconv.ErrSyntax", "strconv.ErrRange", "internal/strconv.uint64pow10", "math/bits.deBruijn32tab", "math/bits.deBruijn64tab", "arborist/inst.words", "arborist/inst.hows"], apart := false, laid := [("math/bits.deBruijn32tab", laid_math_bits_deBruijn32tab), ("math/bits.deBruijn64tab", laid_math_bits_deBruijn64tab), ("internal/strconv.uint64pow10", laid_internal_strconv_uint64pow10), ("strconv.ErrRange", laid_strconv_ErrRange), ("strconv.ErrSyntax", laid_strconv_ErrSyntax), ("arborist/inst.words", laid_arborist_inst_words), ("arborist/inst.hows", laid_arborist_inst_hows)] }
def InstMovesSaid : Prop := instMovesRow.holds Tryz.pinned (OpenSpec.ofChange instMovesSpec)

/-- ITS FALSE NEIGHBOUR: 'it returns false'. Refute it at one input. -/
def instMovesWrong : ChangeSpec := { name := "instMoves", fn := fun _ => fun
  | [d] => { results := [.lit (.bool false)], args := [d] }
  | _ => none }
def InstMovesWrongFalsely : Prop := instMovesRow.holds Tryz.pinned (OpenSpec.ofChange instMovesWrong)

/-- 'arboristlaw06.InstMany': WHATEVER THE INPUT: true; the input reads as it did. -/
def instManySpec : ChangeSpec := { name := "instMany", fn := fun _ => fun
  | [d] => { results := [.lit (.bool true)], args := [d] }
  | _ => none }
def instManyRow : OpenClaim := { program := "ytoahaigfjfeopaagreatdoor", sum := "0812c7108da3f805dc4f1ec86c220285c116597b9c75cda5def7c424c95d03a7", func := "arborist/arboristlaw06.InstMany", spec := "instMany", inPlace := ["internal/bytealg.IndexByteString", "internal/abi.NoEscape"], unfollowed := true, recurses := true, named := ["strconv.ErrSyntax", "strconv.ErrRange", "internal/strconv.uint64pow10", "math/bits.deBruijn32tab", "math/bits.deBruijn64tab", "arborist/inst.words", "arborist/inst.hows"], apart := false, laid := [("math/bits.deBruijn32tab", laid_math_bits_deBruijn32tab), ("math/bits.deBruijn64tab", laid_math_bits_deBruijn64tab), ("internal/strconv.uint64pow10", laid_internal_strconv_uint64pow10), ("strconv.ErrRange", laid_strconv_ErrRange), ("strconv.ErrSyntax", laid_strconv_ErrSyntax), ("arborist/inst.words", laid_arborist_inst_words), ("arborist/inst.hows", laid_arborist_inst_hows)] }
def InstManySaid : Prop := instManyRow.holds Tryz.pinned (OpenSpec.ofChange instManySpec)

/-- ITS FALSE NEIGHBOUR: 'it returns false'. Refute it at one input. -/
def instManyWrong : ChangeSpec := { name := "instMany", fn := fun _ => fun
  | [d] => { results := [.lit (.bool false)], args := [d] }
  | _ => none }
def InstManyWrongFalsely : Prop := instManyRow.holds Tryz.pinned (OpenSpec.ofChange instManyWrong)

/-- 'arboristlaw06.InstEmpty': WHATEVER THE INPUT: true; the input reads as it did. -/
def instEmptySpec : ChangeSpec := { name := "instEmpty", fn := fun _ => fun
  | [d] => { results := [.lit (.bool true)], args := [d] }
  | _ => none }
def instEmptyRow : OpenClaim := { program := "ytoahaigfjfeopaagreatdoor", sum := "0812c7108da3f805dc4f1ec86c220285c116597b9c75cda5def7c424c95d03a7", func := "arborist/arboristlaw06.InstEmpty", spec := "instEmpty", inPlace := ["internal/bytealg.IndexByteString", "internal/abi.NoEscape"], unfollowed := true, recurses := true, named := ["strconv.ErrSyntax", "strconv.ErrRange", "internal/strconv.uint64pow10", "math/bits.deBruijn32tab", "math/bits.deBruijn64tab", "arborist/inst.words", "arborist/inst.hows"], apart := false, laid := [("math/bits.deBruijn32tab", laid_math_bits_deBruijn32tab), ("math/bits.deBruijn64tab", laid_math_bits_deBruijn64tab), ("internal/strconv.uint64pow10", laid_internal_strconv_uint64pow10), ("strconv.ErrRange", laid_strconv_ErrRange), ("strconv.ErrSyntax", laid_strconv_ErrSyntax), ("arborist/inst.words", laid_arborist_inst_words), ("arborist/inst.hows", laid_arborist_inst_hows)] }
def InstEmptySaid : Prop := instEmptyRow.holds Tryz.pinned (OpenSpec.ofChange instEmptySpec)

/-- ITS FALSE NEIGHBOUR: 'it returns false'. Refute it at one input. -/
def instEmptyWrong : ChangeSpec := { name := "instEmpty", fn := fun _ => fun
  | [d] => { results := [.lit (.bool false)], args := [d] }
  | _ => none }
def InstEmptyWrongFalsely : Prop := instEmptyRow.holds Tryz.pinned (OpenSpec.ofChange instEmptyWrong)

/- THE SECOND FORM. 'bulk': how many values and letters a reading holds, each counted each time it is reached (what is shared counts as often as it is met; a slice's spare places count too). A statement '..UptoSaid' is the law's where the arguments, and the package variables that the reading takes, are together of bulk at most 1048576: NARROWER than '..Said'. Prove '..Said' where nothing that the law and all that it calls make is longer than what came in: it says more and counts as full. Else prove '..UptoSaid'. A law counts once. -/
mutual
def uptoBulk {H : Type} : DataW H → Nat
  | .lit (.string bytes) => bytes.length + 1
  | .lit _ => 1
  | .nil => 1
  | .ptr d => uptoBulk d + 1
  | .slice elems spare => uptoBulkAll elems + uptoBulkAll spare + 1
  | .agg parts => uptoBulkAll parts + 1
  | .iface _ d => uptoBulk d + 1
  | .map entries => uptoBulkEntries entries + 1
  | .held _ => 1
def uptoBulkAll {H : Type} : List (DataW H) → Nat
  | [] => 0
  | d :: r => uptoBulk d + uptoBulkAll r
def uptoBulkEntries {H : Type} : List (Lit × DataW H) → Nat
  | [] => 0
  | x :: r => uptoBulkEntry x + uptoBulkEntries r
def uptoBulkEntry {H : Type} : Lit × DataW H → Nat
  | (.string bytes, d) => bytes.length + uptoBulk d + 1
  | (_, d) => uptoBulk d + 1
 end
def uptoSmall : (H : Type) → List (DataW H) → Bool := fun _ ds => decide (uptoBulkAll ds ≤ 1048576)
def OpenSpec.upto (s : _root_.Go.ChangeSpec) : _root_.Go.OpenSpec := { _root_.Go.OpenSpec.ofChange s with cond := some uptoSmall }

/-- 'arboristlaw06.InstRights', WHERE WHAT IT READS IS OF BULK AT MOST 1048576: true; the input reads as it did. -/
def instRightsUptoRow : OpenClaim := { program := "ytoahaigfjfeopaagreatdoor", sum := "0812c7108da3f805dc4f1ec86c220285c116597b9c75cda5def7c424c95d03a7", func := "arborist/arboristlaw06.InstRights", spec := "instRights", inPlace := ["internal/bytealg.IndexByteString", "internal/abi.NoEscape"], unfollowed := true, recurses := true, named := ["strconv.ErrSyntax", "strconv.ErrRange", "internal/strconv.uint64pow10", "math/bits.deBruijn32tab", "math/bits.deBruijn64tab", "arborist/inst.words", "arborist/inst.hows"], apart := false, laid := [("math/bits.deBruijn32tab", laid_math_bits_deBruijn32tab), ("math/bits.deBruijn64tab", laid_math_bits_deBruijn64tab), ("internal/strconv.uint64pow10", laid_internal_strconv_uint64pow10), ("strconv.ErrRange", laid_strconv_ErrRange), ("strconv.ErrSyntax", laid_strconv_ErrSyntax), ("arborist/inst.words", laid_arborist_inst_words), ("arborist/inst.hows", laid_arborist_inst_hows)], narrowed := true }
def InstRightsUptoSaid : Prop := instRightsUptoRow.holds Tryz.pinned (OpenSpec.upto instRightsSpec)

/-- 'arboristlaw06.InstParses', WHERE WHAT IT READS IS OF BULK AT MOST 1048576: true; the input reads as it did. -/
def instParsesUptoRow : OpenClaim := { program := "ytoahaigfjfeopaagreatdoor", sum := "0812c7108da3f805dc4f1ec86c220285c116597b9c75cda5def7c424c95d03a7", func := "arborist/arboristlaw06.InstParses", spec := "instParses", inPlace := ["internal/bytealg.IndexByteString", "internal/abi.NoEscape"], unfollowed := true, recurses := true, named := ["strconv.ErrSyntax", "strconv.ErrRange", "internal/strconv.uint64pow10", "math/bits.deBruijn32tab", "math/bits.deBruijn64tab", "arborist/inst.words", "arborist/inst.hows"], apart := false, laid := [("math/bits.deBruijn32tab", laid_math_bits_deBruijn32tab), ("math/bits.deBruijn64tab", laid_math_bits_deBruijn64tab), ("internal/strconv.uint64pow10", laid_internal_strconv_uint64pow10), ("strconv.ErrRange", laid_strconv_ErrRange), ("strconv.ErrSyntax", laid_strconv_ErrSyntax), ("arborist/inst.words", laid_arborist_inst_words), ("arborist/inst.hows", laid_arborist_inst_hows)], narrowed := true }
def InstParsesUptoSaid : Prop := instParsesUptoRow.holds Tryz.pinned (OpenSpec.upto instParsesSpec)

/-- 'arboristlaw06.InstBack', WHERE WHAT IT READS IS OF BULK AT MOST 1048576: true; the input reads as it did. -/
def instBackUptoRow : OpenClaim := { program := "ytoahaigfjfeopaagreatdoor", sum := "0812c7108da3f805dc4f1ec86c220285c116597b9c75cda5def7c424c95d03a7", func := "arborist/arboristlaw06.InstBack", spec := "instBack", inPlace := ["internal/bytealg.IndexByteString", "internal/abi.NoEscape"], unfollowed := true, recurses := true, named := ["strconv.ErrSyntax", "strconv.ErrRange", "internal/strconv.uint64pow10", "math/bits.deBruijn32tab", "math/bits.deBruijn64tab", "arborist/inst.words", "arborist/inst.hows"], apart := false, laid := [("math/bits.deBruijn32tab", laid_math_bits_deBruijn32tab), ("math/bits.deBruijn64tab", laid_math_bits_deBruijn64tab), ("internal/strconv.uint64pow10", laid_internal_strconv_uint64pow10), ("strconv.ErrRange", laid_strconv_ErrRange), ("strconv.ErrSyntax", laid_strconv_ErrSyntax), ("arborist/inst.words", laid_arborist_inst_words), ("arborist/inst.hows", laid_arborist_inst_hows)], narrowed := true }
def InstBackUptoSaid : Prop := instBackUptoRow.holds Tryz.pinned (OpenSpec.upto instBackSpec)

/-- 'arboristlaw06.InstReads', WHERE WHAT IT READS IS OF BULK AT MOST 1048576: true; the input reads as it did. -/
def instReadsUptoRow : OpenClaim := { program := "ytoahaigfjfeopaagreatdoor", sum := "0812c7108da3f805dc4f1ec86c220285c116597b9c75cda5def7c424c95d03a7", func := "arborist/arboristlaw06.InstReads", spec := "instReads", inPlace := ["internal/bytealg.IndexByteString", "internal/abi.NoEscape"], unfollowed := true, recurses := true, named := ["strconv.ErrSyntax", "strconv.ErrRange", "internal/strconv.uint64pow10", "math/bits.deBruijn32tab", "math/bits.deBruijn64tab", "arborist/inst.words", "arborist/inst.hows"], apart := false, laid := [("math/bits.deBruijn32tab", laid_math_bits_deBruijn32tab), ("math/bits.deBruijn64tab", laid_math_bits_deBruijn64tab), ("internal/strconv.uint64pow10", laid_internal_strconv_uint64pow10), ("strconv.ErrRange", laid_strconv_ErrRange), ("strconv.ErrSyntax", laid_strconv_ErrSyntax), ("arborist/inst.words", laid_arborist_inst_words), ("arborist/inst.hows", laid_arborist_inst_hows)], narrowed := true }
def InstReadsUptoSaid : Prop := instReadsUptoRow.holds Tryz.pinned (OpenSpec.upto instReadsSpec)

/-- 'arboristlaw06.InstBehind', WHERE WHAT IT READS IS OF BULK AT MOST 1048576: true; the input reads as it did. -/
def instBehindUptoRow : OpenClaim := { program := "ytoahaigfjfeopaagreatdoor", sum := "0812c7108da3f805dc4f1ec86c220285c116597b9c75cda5def7c424c95d03a7", func := "arborist/arboristlaw06.InstBehind", spec := "instBehind", inPlace := ["internal/bytealg.IndexByteString", "internal/abi.NoEscape"], unfollowed := true, recurses := true, named := ["strconv.ErrSyntax", "strconv.ErrRange", "internal/strconv.uint64pow10", "math/bits.deBruijn32tab", "math/bits.deBruijn64tab", "arborist/inst.words", "arborist/inst.hows"], apart := false, laid := [("math/bits.deBruijn32tab", laid_math_bits_deBruijn32tab), ("math/bits.deBruijn64tab", laid_math_bits_deBruijn64tab), ("internal/strconv.uint64pow10", laid_internal_strconv_uint64pow10), ("strconv.ErrRange", laid_strconv_ErrRange), ("strconv.ErrSyntax", laid_strconv_ErrSyntax), ("arborist/inst.words", laid_arborist_inst_words), ("arborist/inst.hows", laid_arborist_inst_hows)], narrowed := true }
def InstBehindUptoSaid : Prop := instBehindUptoRow.holds Tryz.pinned (OpenSpec.upto instBehindSpec)

/-- 'arboristlaw06.InstMoves', WHERE WHAT IT READS IS OF BULK AT MOST 1048576: true; the input reads as it did. -/
def instMovesUptoRow : OpenClaim := { program := "ytoahaigfjfeopaagreatdoor", sum := "0812c7108da3f805dc4f1ec86c220285c116597b9c75cda5def7c424c95d03a7", func := "arborist/arboristlaw06.InstMoves", spec := "instMoves", inPlace := ["internal/bytealg.IndexByteString", "internal/abi.NoEscape"], unfollowed := true, recurses := true, named := ["strconv.ErrSyntax", "strconv.ErrRange", "internal/strconv.uint64pow10", "math/bits.deBruijn32tab", "math/bits.deBruijn64tab", "arborist/inst.words", "arborist/inst.hows"], apart := false, laid := [("math/bits.deBruijn32tab", laid_math_bits_deBruijn32tab), ("math/bits.deBruijn64tab", laid_math_bits_deBruijn64tab), ("internal/strconv.uint64pow10", laid_internal_strconv_uint64pow10), ("strconv.ErrRange", laid_strconv_ErrRange), ("strconv.ErrSyntax", laid_strconv_ErrSyntax), ("arborist/inst.words", laid_arborist_inst_words), ("arborist/inst.hows", laid_arborist_inst_hows)], narrowed := true }
def InstMovesUptoSaid : Prop := instMovesUptoRow.holds Tryz.pinned (OpenSpec.upto instMovesSpec)

/-- 'arboristlaw06.InstMany', WHERE WHAT IT READS IS OF BULK AT MOST 1048576: true; the input reads as it did. -/
def instManyUptoRow : OpenClaim := { program := "ytoahaigfjfeopaagreatdoor", sum := "0812c7108da3f805dc4f1ec86c220285c116597b9c75cda5def7c424c95d03a7", func := "arborist/arboristlaw06.InstMany", spec := "instMany", inPlace := ["internal/bytealg.IndexByteString", "internal/abi.NoEscape"], unfollowed := true, recurses := true, named := ["strconv.ErrSyntax", "strconv.ErrRange", "internal/strconv.uint64pow10", "math/bits.deBruijn32tab", "math/bits.deBruijn64tab", "arborist/inst.words", "arborist/inst.hows"], apart := false, laid := [("math/bits.deBruijn32tab", laid_math_bits_deBruijn32tab), ("math/bits.deBruijn64tab", laid_math_bits_deBruijn64tab), ("internal/strconv.uint64pow10", laid_internal_strconv_uint64pow10), ("strconv.ErrRange", laid_strconv_ErrRange), ("strconv.ErrSyntax", laid_strconv_ErrSyntax), ("arborist/inst.words", laid_arborist_inst_words), ("arborist/inst.hows", laid_arborist_inst_hows)], narrowed := true }
def InstManyUptoSaid : Prop := instManyUptoRow.holds Tryz.pinned (OpenSpec.upto instManySpec)

/-- 'arboristlaw06.InstEmpty', WHERE WHAT IT READS IS OF BULK AT MOST 1048576: true; the input reads as it did. -/
def instEmptyUptoRow : OpenClaim := { program := "ytoahaigfjfeopaagreatdoor", sum := "0812c7108da3f805dc4f1ec86c220285c116597b9c75cda5def7c424c95d03a7", func := "arborist/arboristlaw06.InstEmpty", spec := "instEmpty", inPlace := ["internal/bytealg.IndexByteString", "internal/abi.NoEscape"], unfollowed := true, recurses := true, named := ["strconv.ErrSyntax", "strconv.ErrRange", "internal/strconv.uint64pow10", "math/bits.deBruijn32tab", "math/bits.deBruijn64tab", "arborist/inst.words", "arborist/inst.hows"], apart := false, laid := [("math/bits.deBruijn32tab", laid_math_bits_deBruijn32tab), ("math/bits.deBruijn64tab", laid_math_bits_deBruijn64tab), ("internal/strconv.uint64pow10", laid_internal_strconv_uint64pow10), ("strconv.ErrRange", laid_strconv_ErrRange), ("strconv.ErrSyntax", laid_strconv_ErrSyntax), ("arborist/inst.words", laid_arborist_inst_words), ("arborist/inst.hows", laid_arborist_inst_hows)], narrowed := true }
def InstEmptyUptoSaid : Prop := instEmptyUptoRow.holds Tryz.pinned (OpenSpec.upto instEmptySpec)

end Rows
end Go.Proofs.YtoahaigfjfeopaaGreatDoor
