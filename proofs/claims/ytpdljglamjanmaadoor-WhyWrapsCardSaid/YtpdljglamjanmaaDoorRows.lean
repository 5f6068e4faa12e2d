/-
  NARROWER THAN 'FOR EVERY INPUT', by the rows' own cells (each row's printed sentence says how): FaultWraps: laid · FaultDeep: laid · FaultTexts: laid · FaultStrange: laid · WhyTells: laid · WhyIs: laid · WhyWraps: laid · WhyDeep: laid.
  DERIVED. THE GIVEN ROWS OF THIS SEAT. 8 by the template 'for every input the law returns true; each argument reads behind the call as it read before'; 0 by the template 'total and deterministic' (their statements: YtpdljglamjanmaaDoorTotals.lean).
  GIVEN WITH THE SEED: the statements are not yours to turn. If you find one false, say at which input.
  Laid BY PROGRAM, IN A SANDBOX (cutbox-rows.mjs): the forced cells as the released guide's own fill.sh prints them over the translation f92bb40f60a009a9… (all of the seat's roots in one cut). By AI agents, Wed Nov 11 2026. No macro, syntax, notation, axiom, sorry.
-/
import Derived.Test.YtpdljglamjanmaaDoorChecked
import GoSem.Claim
import GoSem.ClaimJoined
import GoSem.ClaimMapViews
import Derived.JoinedTies
import Derived.KernelRfl
namespace Go.Proofs.YtpdljglamjanmaaDoor
/- THE CELL 'sum', in the pinned program and in every row, IS THE sha256 OF THE DUMP (.gsa) THAT YtpdljglamjanmaaDoorProg.lean LOADS. Nothing in Lean hashes anything: it is a label: what it is worth is what the hold of that sum in a sandbox is worth. -/
noncomputable def Tryd.pinned : Pinned := { name := "ytpdljglamjanmaadoor", sum := "f92bb40f60a009a905d96fc4f5d8dfdc354764f2d7acd8825c2c4dab65ba4d34", checked := Tryd.checked }
namespace Rows
def none {H : Type} : Left H := { results := [], args := [] }

/- WHAT THE LISTED PACKAGE-LEVEL VARIABLES READ AS WHEN THE CALL BEGINS. Each datum BY PROGRAM (the guide's laid-datum.mjs) off the statement by which the dump's own 'gosem.cut.vars' lays the variable. In a bare row this is a premise. The card (YtpdljglamjanmaaDoorCards.lean) ties it to the program's text. -/
def laid_errors_errorType {H : Type} : DataW H := .iface "internal/reflectlite.rtype" (.agg [.ptr (.lit (.string [101, 114, 114, 111, 114]))])
def laid_math_bits_deBruijn32tab {H : Type} : DataW H := .agg [.lit (.int .u8 0), .lit (.int .u8 1), .lit (.int .u8 28), .lit (.int .u8 2), .lit (.int .u8 29), .lit (.int .u8 14), .lit (.int .u8 24), .lit (.int .u8 3), .lit (.int .u8 30), .lit (.int .u8 22), .lit (.int .u8 20), .lit (.int .u8 15), .lit (.int .u8 25), .lit (.int .u8 17), .lit (.int .u8 4), .lit (.int .u8 8), .lit (.int .u8 31), .lit (.int .u8 27), .lit (.int .u8 13), .lit (.int .u8 23), .lit (.int .u8 21), .lit (.int .u8 19), .lit (.int .u8 16), .lit (.int .u8 7), .lit (.int .u8 26), .lit (.int .u8 12), .lit (.int .u8 18), .lit (.int .u8 6), .lit (.int .u8 11), .lit (.int .u8 5), .lit (.int .u8 10), .lit (.int .u8 9)]
def laid_math_bits_deBruijn64tab {H : Type} : DataW H := .agg [.lit (.int .u8 0), .lit (.int .u8 1), .lit (.int .u8 56), .lit (.int .u8 2), .lit (.int .u8 57), .lit (.int .u8 49), .lit (.int .u8 28), .lit (.int .u8 3), .lit (.int .u8 61), .lit (.int .u8 58), .lit (.int .u8 42), .lit (.int .u8 50), .lit (.int .u8 38), .lit (.int .u8 29), .lit (.int .u8 17), .lit (.int .u8 4), .lit (.int .u8 62), .lit (.int .u8 47), .lit (.int .u8 59), .lit (.int .u8 36), .lit (.int .u8 45), .lit (.int .u8 43), .lit (.int .u8 51), .lit (.int .u8 22), .lit (.int .u8 53), .lit (.int .u8 39), .lit (.int .u8 33), .lit (.int .u8 30), .lit (.int .u8 24), .lit (.int .u8 18), .lit (.int .u8 12), .lit (.int .u8 5), .lit (.int .u8 63), .lit (.int .u8 55), .lit (.int .u8 48), .lit (.int .u8 27), .lit (.int .u8 60), .lit (.int .u8 41), .lit (.int .u8 37), .lit (.int .u8 16), .lit (.int .u8 46), .lit (.int .u8 35), .lit (.int .u8 44), .lit (.int .u8 21), .lit (.int .u8 52), .lit (.int .u8 32), .lit (.int .u8 23), .lit (.int .u8 11), .lit (.int .u8 54), .lit (.int .u8 26), .lit (.int .u8 40), .lit (.int .u8 15), .lit (.int .u8 34), .lit (.int .u8 20), .lit (.int .u8 31), .lit (.int .u8 10), .lit (.int .u8 25), .lit (.int .u8 14), .lit (.int .u8 19), .lit (.int .u8 9), .lit (.int .u8 13), .lit (.int .u8 8), .lit (.int .u8 7), .lit (.int .u8 6)]
def laid_internal_strconv_uint64pow10 {H : Type} : DataW H := .agg [.lit (.int .u64 1), .lit (.int .u64 10), .lit (.int .u64 100), .lit (.int .u64 1000), .lit (.int .u64 10000), .lit (.int .u64 100000), .lit (.int .u64 1000000), .lit (.int .u64 10000000), .lit (.int .u64 100000000), .lit (.int .u64 1000000000), .lit (.int .u64 10000000000), .lit (.int .u64 100000000000), .lit (.int .u64 1000000000000), .lit (.int .u64 10000000000000), .lit (.int .u64 100000000000000), .lit (.int .u64 1000000000000000), .lit (.int .u64 10000000000000000), .lit (.int .u64 100000000000000000), .lit (.int .u64 1000000000000000000), .lit (.int .u64 10000000000000000000)]

/-- 'tarpaulinlaw2.FaultWraps': WHATEVER THE INPUT: true; the input reads as it did. -/
def faultWrapsSpec : ChangeSpec := { name := "faultWraps", fn := fun _ => fun
  | [d1, d2] => { results := [.lit (.bool true)], args := [d1, d2] }
  | _ => none }
def faultWrapsRow : OpenClaim := { program := "ytpdljglamjanmaadoor", sum := "f92bb40f60a009a905d96fc4f5d8dfdc354764f2d7acd8825c2c4dab65ba4d34", func := "tarpaulin/tarpaulinlaw2.FaultWraps", spec := "faultWraps", inPlace := ["internal/reflectlite.ValueOf", "(internal/reflectlite.Value).Type", "(internal/reflectlite.Value).IsNil", "internal/reflectlite.TypeOf", "(internal/reflectlite.Value).Elem", "(internal/reflectlite.Value).Set"], unfollowed := true, recurses := true, named := ["errors.errorType"], apart := false, laid := [("errors.errorType", laid_errors_errorType)] }
def FaultWrapsSaid : Prop := faultWrapsRow.holds Tryd.pinned (OpenSpec.ofChange faultWrapsSpec)

/-- ITS FALSE NEIGHBOUR: 'it returns false'. Refute it at one input. -/
def faultWrapsWrong : ChangeSpec := { name := "faultWraps", fn := fun _ => fun
  | [d1, d2] => { results := [.lit (.bool false)], args := [d1, d2] }
  | _ => none }
def FaultWrapsWrongFalsely : Prop := faultWrapsRow.holds Tryd.pinned (OpenSpec.ofChange faultWrapsWrong)

/-- 'tarpaulinlaw2.FaultDeep': WHATEVER THE INPUT: true; the input reads as it did. -/
def faultDeepSpec : ChangeSpec := { name := "faultDeep", fn := fun _ => fun
  | [d1, d2, d3] => { results := [.lit (.bool true)], args := [d1, d2, d3] }
  | _ => none }
def faultDeepRow : OpenClaim := { program := "ytpdljglamjanmaadoor", sum := "f92bb40f60a009a905d96fc4f5d8dfdc354764f2d7acd8825c2c4dab65ba4d34", func := "tarpaulin/tarpaulinlaw2.FaultDeep", spec := "faultDeep", inPlace := ["internal/reflectlite.ValueOf", "(internal/reflectlite.Value).Type", "(internal/reflectlite.Value).IsNil", "internal/reflectlite.TypeOf", "(internal/reflectlite.Value).Elem", "(internal/reflectlite.Value).Set"], unfollowed := true, recurses := true, named := ["errors.errorType"], apart := false, laid := [("errors.errorType", laid_errors_errorType)] }
def FaultDeepSaid : Prop := faultDeepRow.holds Tryd.pinned (OpenSpec.ofChange faultDeepSpec)

/-- ITS FALSE NEIGHBOUR: 'it returns false'. Refute it at one input. -/
def faultDeepWrong : ChangeSpec := { name := "faultDeep", fn := fun _ => fun
  | [d1, d2, d3] => { results := [.lit (.bool false)], args := [d1, d2, d3] }
  | _ => none }
def FaultDeepWrongFalsely : Prop := faultDeepRow.holds Tryd.pinned (OpenSpec.ofChange faultDeepWrong)

/-- 'tarpaulinlaw2.FaultTexts': WHATEVER THE INPUT: true; the input reads as it did. -/
def faultTextsSpec : ChangeSpec := { name := "faultTexts", fn := fun _ => fun
  | [d1, d2] => { results := [.lit (.bool true)], args := [d1, d2] }
  | _ => none }
def faultTextsRow : OpenClaim := { program := "ytpdljglamjanmaadoor", sum := "f92bb40f60a009a905d96fc4f5d8dfdc354764f2d7acd8825c2c4dab65ba4d34", func := "tarpaulin/tarpaulinlaw2.FaultTexts", spec := "faultTexts", inPlace := ["internal/reflectlite.ValueOf", "(internal/reflectlite.Value).Type", "(internal/reflectlite.Value).IsNil", "internal/reflectlite.TypeOf", "(internal/reflectlite.Value).Elem", "(internal/reflectlite.Value).Set"], unfollowed := true, recurses := true, named := ["errors.errorType", "internal/strconv.uint64pow10", "math/bits.deBruijn32tab", "math/bits.deBruijn64tab"], apart := false, laid := [("math/bits.deBruijn32tab", laid_math_bits_deBruijn32tab), ("math/bits.deBruijn64tab", laid_math_bits_deBruijn64tab), ("internal/strconv.uint64pow10", laid_internal_strconv_uint64pow10), ("errors.errorType", laid_errors_errorType)] }
def FaultTextsSaid : Prop := faultTextsRow.holds Tryd.pinned (OpenSpec.ofChange faultTextsSpec)

/-- ITS FALSE NEIGHBOUR: 'it returns false'. Refute it at one input. -/
def faultTextsWrong : ChangeSpec := { name := "faultTexts", fn := fun _ => fun
  | [d1, d2] => { results := [.lit (.bool false)], args := [d1, d2] }
  | _ => none }
def FaultTextsWrongFalsely : Prop := faultTextsRow.holds Tryd.pinned (OpenSpec.ofChange faultTextsWrong)

/-- 'tarpaulinlaw2.FaultStrange': WHATEVER THE INPUT: true; the input reads as it did. -/
def faultStrangeSpec : ChangeSpec := { name := "faultStrange", fn := fun _ => fun
  | [d1, d2] => { results := [.lit (.bool true)], args := [d1, d2] }
  | _ => none }
def faultStrangeRow : OpenClaim := { program := "ytpdljglamjanmaadoor", sum := "f92bb40f60a009a905d96fc4f5d8dfdc354764f2d7acd8825c2c4dab65ba4d34", func := "tarpaulin/tarpaulinlaw2.FaultStrange", spec := "faultStrange", inPlace := ["internal/reflectlite.ValueOf", "(internal/reflectlite.Value).Type", "(internal/reflectlite.Value).IsNil", "internal/reflectlite.TypeOf", "(internal/reflectlite.Value).Elem", "(internal/reflectlite.Value).Set"], unfollowed := true, recurses := true, named := ["errors.errorType"], apart := false, laid := [("errors.errorType", laid_errors_errorType)] }
def FaultStrangeSaid : Prop := faultStrangeRow.holds Tryd.pinned (OpenSpec.ofChange faultStrangeSpec)

/-- ITS FALSE NEIGHBOUR: 'it returns false'. Refute it at one input. -/
def faultStrangeWrong : ChangeSpec := { name := "faultStrange", fn := fun _ => fun
  | [d1, d2] => { results := [.lit (.bool false)], args := [d1, d2] }
  | _ => none }
def FaultStrangeWrongFalsely : Prop := faultStrangeRow.holds Tryd.pinned (OpenSpec.ofChange faultStrangeWrong)

/-- 'tarpaulinlaw16.WhyTells': WHATEVER THE INPUT: true; the input reads as it did. -/
def whyTellsSpec : ChangeSpec := { name := "whyTells", fn := fun _ => fun
  | [d1, d2, d3] => { results := [.lit (.bool true)], args := [d1, d2, d3] }
  | _ => none }
def whyTellsRow : OpenClaim := { program := "ytpdljglamjanmaadoor", sum := "f92bb40f60a009a905d96fc4f5d8dfdc354764f2d7acd8825c2c4dab65ba4d34", func := "tarpaulin/tarpaulinlaw16.WhyTells", spec := "whyTells", inPlace := ["internal/reflectlite.ValueOf", "(internal/reflectlite.Value).Type", "(internal/reflectlite.Value).IsNil", "internal/reflectlite.TypeOf", "(internal/reflectlite.Value).Elem", "(internal/reflectlite.Value).Set"], unfollowed := true, recurses := true, named := ["errors.errorType"], apart := false, laid := [("errors.errorType", laid_errors_errorType)] }
def WhyTellsSaid : Prop := whyTellsRow.holds Tryd.pinned (OpenSpec.ofChange whyTellsSpec)

/-- ITS FALSE NEIGHBOUR: 'it returns false'. Refute it at one input. -/
def whyTellsWrong : ChangeSpec := { name := "whyTells", fn := fun _ => fun
  | [d1, d2, d3] => { results := [.lit (.bool false)], args := [d1, d2, d3] }
  | _ => none }
def WhyTellsWrongFalsely : Prop := whyTellsRow.holds Tryd.pinned (OpenSpec.ofChange whyTellsWrong)

/-- 'tarpaulinlaw16.WhyIs': WHATEVER THE INPUT: true; the input reads as it did. -/
def whyIsSpec : ChangeSpec := { name := "whyIs", fn := fun _ => fun
  | [d1, d2] => { results := [.lit (.bool true)], args := [d1, d2] }
  | _ => none }
def whyIsRow : OpenClaim := { program := "ytpdljglamjanmaadoor", sum := "f92bb40f60a009a905d96fc4f5d8dfdc354764f2d7acd8825c2c4dab65ba4d34", func := "tarpaulin/tarpaulinlaw16.WhyIs", spec := "whyIs", inPlace := ["internal/reflectlite.ValueOf", "(internal/reflectlite.Value).Type", "(internal/reflectlite.Value).IsNil", "internal/reflectlite.TypeOf", "(internal/reflectlite.Value).Elem", "(internal/reflectlite.Value).Set"], unfollowed := true, recurses := true, named := ["errors.errorType"], apart := false, laid := [("errors.errorType", laid_errors_errorType)] }
def WhyIsSaid : Prop := whyIsRow.holds Tryd.pinned (OpenSpec.ofChange whyIsSpec)

/-- ITS FALSE NEIGHBOUR: 'it returns false'. Refute it at one input. -/
def whyIsWrong : ChangeSpec := { name := "whyIs", fn := fun _ => fun
  | [d1, d2] => { results := [.lit (.bool false)], args := [d1, d2] }
  | _ => none }
def WhyIsWrongFalsely : Prop := whyIsRow.holds Tryd.pinned (OpenSpec.ofChange whyIsWrong)

/-- 'tarpaulinlaw16.WhyWraps': WHATEVER THE INPUT: true; the input reads as it did. -/
def whyWrapsSpec : ChangeSpec := { name := "whyWraps", fn := fun _ => fun
  | [d1, d2, d3] => { results := [.lit (.bool true)], args := [d1, d2, d3] }
  | _ => none }
def whyWrapsRow : OpenClaim := { program := "ytpdljglamjanmaadoor", sum := "f92bb40f60a009a905d96fc4f5d8dfdc354764f2d7acd8825c2c4dab65ba4d34", func := "tarpaulin/tarpaulinlaw16.WhyWraps", spec := "whyWraps", inPlace := ["internal/reflectlite.ValueOf", "(internal/reflectlite.Value).Type", "(internal/reflectlite.Value).IsNil", "internal/reflectlite.TypeOf", "(internal/reflectlite.Value).Elem", "(internal/reflectlite.Value).Set"], unfollowed := true, recurses := true, named := ["errors.errorType"], apart := false, laid := [("errors.errorType", laid_errors_errorType)] }
def WhyWrapsSaid : Prop := whyWrapsRow.holds Tryd.pinned (OpenSpec.ofChange whyWrapsSpec)

/-- ITS FALSE NEIGHBOUR: 'it returns false'. Refute it at one input. -/
def whyWrapsWrong : ChangeSpec := { name := "whyWraps", fn := fun _ => fun
  | [d1, d2, d3] => { results := [.lit (.bool false)], args := [d1, d2, d3] }
  | _ => none }
def WhyWrapsWrongFalsely : Prop := whyWrapsRow.holds Tryd.pinned (OpenSpec.ofChange whyWrapsWrong)

/-- 'tarpaulinlaw16.WhyDeep': WHATEVER THE INPUT: true; the input reads as it did. -/
def whyDeepSpec : ChangeSpec := { name := "whyDeep", fn := fun _ => fun
  | [d] => { results := [.lit (.bool true)], args := [d] }
  | _ => none }
def whyDeepRow : OpenClaim := { program := "ytpdljglamjanmaadoor", sum := "f92bb40f60a009a905d96fc4f5d8dfdc354764f2d7acd8825c2c4dab65ba4d34", func := "tarpaulin/tarpaulinlaw16.WhyDeep", spec := "whyDeep", inPlace := ["internal/reflectlite.ValueOf", "(internal/reflectlite.Value).Type", "(internal/reflectlite.Value).IsNil", "internal/reflectlite.TypeOf", "(internal/reflectlite.Value).Elem", "(internal/reflectlite.Value).Set"], unfollowed := true, recurses := true, named := ["errors.errorType"], apart := false, laid := [("errors.errorType", laid_errors_errorType)] }
def WhyDeepSaid : Prop := whyDeepRow.holds Tryd.pinned (OpenSpec.ofChange whyDeepSpec)

/-- ITS FALSE NEIGHBOUR: 'it returns false'. Refute it at one input. -/
def whyDeepWrong : ChangeSpec := { name := "whyDeep", fn := fun _ => fun
  | [d] => { results := [.lit (.bool false)], args := [d] }
  | _ => none }
def WhyDeepWrongFalsely : Prop := whyDeepRow.holds Tryd.pinned (OpenSpec.ofChange whyDeepWrong)

/- THE SECOND FORM. 'bulk': how many values and letters a reading holds, each counted each time it is reached (what is shared counts as often as it is met; a slice's spare places count too). A statement '..UptoSaid' is the law's where the arguments, and the package variables that the reading takes, are together of bulk at most 1048576: NARROWER than '..Said'. Prove '..Said' where nothing that the law and all that it calls make is longer than what came in: it says more and counts as full. Else prove '..UptoSaid'. A law counts once. -/
mutual
def uptoBulk {H : Type} : DataW H → Nat
  | .lit (.string bytes) => bytes.length + 1
  | .lit _ => 1
  | .nil => 1
  | .ptr d => uptoBulk d + 1
  | .slice elems spare => uptoBulkAll elems + uptoBulkAll spare + 1
  | .agg parts => uptoBulkAll parts + 1
  | .iface _ d => uptoBulk d + 1
  | .map entries => uptoBulkEntries entries + 1
  | .held _ => 1
def uptoBulkAll {H : Type} : List (DataW H) → Nat
  | [] => 0
  | d :: r => uptoBulk d + uptoBulkAll r
def uptoBulkEntries {H : Type} : List (Lit × DataW H) → Nat
  | [] => 0
  | x :: r => uptoBulkEntry x + uptoBulkEntries r
def uptoBulkEntry {H : Type} : Lit × DataW H → Nat
  | (.string bytes, d) => bytes.length + uptoBulk d + 1
  | (_, d) => uptoBulk d + 1
 end
def uptoSmall : (H : Type) → List (DataW H) → Bool := fun _ ds => decide (uptoBulkAll ds ≤ 1048576)
def OpenSpec.upto (s : _root_.Go.ChangeSpec) : _root_.Go.OpenSpec := { _root_.Go.OpenSpec.ofChange s with cond := some uptoSmall }

/-- 'tarpaulinlaw2.FaultWraps', WHERE WHAT IT READS IS OF BULK AT MOST 1048576: true; the input reads as it did. -/
def faultWrapsUptoRow : OpenClaim := { program := "ytpdljglamjanmaadoor", sum := "f92bb40f60a009a905d96fc4f5d8dfdc354764f2d7acd8825c2c4dab65ba4d34", func := "tarpaulin/tarpaulinlaw2.FaultWraps", spec := "faultWraps", inPlace := ["internal/reflectlite.ValueOf", "(internal/reflectlite.Value).Type", "(internal/reflectlite.Value).IsNil", "internal/reflectlite.TypeOf", "(internal/reflectlite.Value).Elem", "(internal/reflectlite.Value).Set"], unfollowed := true, recurses := true, named := ["errors.errorType"], apart := false, laid := [("errors.errorType", laid_errors_errorType)], narrowed := true }
def FaultWrapsUptoSaid : Prop := faultWrapsUptoRow.holds Tryd.pinned (OpenSpec.upto faultWrapsSpec)

/-- 'tarpaulinlaw2.FaultDeep', WHERE WHAT IT READS IS OF BULK AT MOST 1048576: true; the input reads as it did. -/
def faultDeepUptoRow : OpenClaim := { program := "ytpdljglamjanmaadoor", sum := "f92bb40f60a009a905d96fc4f5d8dfdc354764f2d7acd8825c2c4dab65ba4d34", func := "tarpaulin/tarpaulinlaw2.FaultDeep", spec := "faultDeep", inPlace := ["internal/reflectlite.ValueOf", "(internal/reflectlite.Value).Type", "(internal/reflectlite.Value).IsNil", "internal/reflectlite.TypeOf", "(internal/reflectlite.Value).Elem", "(internal/reflectlite.Value).Set"], unfollowed := true, recurses := true, named := ["errors.errorType"], apart := false, laid := [("errors.errorType", laid_errors_errorType)], narrowed := true }
def FaultDeepUptoSaid : Prop := faultDeepUptoRow.holds Tryd.pinned (OpenSpec.upto faultDeepSpec)

/-- 'tarpaulinlaw2.FaultTexts', WHERE WHAT IT READS IS OF BULK AT MOST 1048576: true; the input reads as it did. -/
def faultTextsUptoRow : OpenClaim := { program := "ytpdljglamjanmaadoor", sum := "f92bb40f60a009a905d96fc4f5d8dfdc354764f2d7acd8825c2c4dab65ba4d34", func := "tarpaulin/tarpaulinlaw2.FaultTexts", spec := "faultTexts", inPlace := ["internal/reflectlite.ValueOf", "(internal/reflectlite.Value).Type", "(internal/reflectlite.Value).IsNil", "internal/reflectlite.TypeOf", "(internal/reflectlite.Value).Elem", "(internal/reflectlite.Value).Set"], unfollowed := true, recurses := true, named := ["errors.errorType", "internal/strconv.uint64pow10", "math/bits.deBruijn32tab", "math/bits.deBruijn64tab"], apart := false, laid := [("math/bits.deBruijn32tab", laid_math_bits_deBruijn32tab), ("math/bits.deBruijn64tab", laid_math_bits_deBruijn64tab), ("internal/strconv.uint64pow10", laid_internal_strconv_uint64pow10), ("errors.errorType", laid_errors_errorType)], narrowed := true }
def FaultTextsUptoSaid : Prop := faultTextsUptoRow.holds Tryd.pinned (OpenSpec.upto faultTextsSpec)

/-- 'tarpaulinlaw2.FaultStrange', WHERE WHAT IT READS IS OF BULK AT MOST 1048576: true; the input reads as it did. -/
def faultStrangeUptoRow : OpenClaim := { program := "ytpdljglamjanmaadoor", sum := "f92bb40f60a009a905d96fc4f5d8dfdc354764f2d7acd8825c2c4dab65ba4d34", func := "tarpaulin/tarpaulinlaw2.FaultStrange", spec := "faultStrange", inPlace := ["internal/reflectlite.ValueOf", "(internal/reflectlite.Value).Type", "(internal/reflectlite.Value).IsNil", "internal/reflectlite.TypeOf", "(internal/reflectlite.Value).Elem", "(internal/reflectlite.Value).Set"], unfollowed := true, recurses := true, named := ["errors.errorType"], apart := false, laid := [("errors.errorType", laid_errors_errorType)], narrowed := true }
def FaultStrangeUptoSaid : Prop := faultStrangeUptoRow.holds Tryd.pinned (OpenSpec.upto faultStrangeSpec)

/-- 'tarpaulinlaw16.WhyTells', WHERE WHAT IT READS IS OF BULK AT MOST 1048576: true; the input reads as it did. -/
def whyTellsUptoRow : OpenClaim := { program := "ytpdljglamjanmaadoor", sum := "f92bb40f60a009a905d96fc4f5d8dfdc354764f2d7acd8825c2c4dab65ba4d34", func := "tarpaulin/tarpaulinlaw16.WhyTells", spec := "whyTells", inPlace := ["internal/reflectlite.ValueOf", "(internal/reflectlite.Value).Type", "(internal/reflectlite.Value).IsNil", "internal/reflectlite.TypeOf", "(internal/reflectlite.Value).Elem", "(internal/reflectlite.Value).Set"], unfollowed := true, recurses := true, named := ["errors.errorType"], apart := false, laid := [("errors.errorType", laid_errors_errorType)], narrowed := true }
def WhyTellsUptoSaid : Prop := whyTellsUptoRow.holds Tryd.pinned (OpenSpec.upto whyTellsSpec)

/-- 'tarpaulinlaw16.WhyIs', WHERE WHAT IT READS IS OF BULK AT MOST 1048576: true; the input reads as it did. -/
def whyIsUptoRow : OpenClaim := { program := "ytpdljglamjanmaadoor", sum := "f92bb40f60a009a905d96fc4f5d8dfdc354764f2d7acd8825c2c4dab65ba4d34", func := "tarpaulin/tarpaulinlaw16.WhyIs", spec := "whyIs", inPlace := ["internal/reflectlite.ValueOf", "(internal/reflectlite.Value).Type", "(internal/reflectlite.Value).IsNil", "internal/reflectlite.TypeOf", "(internal/reflectlite.Value).Elem", "(internal/reflectlite.Value).Set"], unfollowed := true, recurses := true, named := ["errors.errorType"], apart := false, laid := [("errors.errorType", laid_errors_errorType)], narrowed := true }
def WhyIsUptoSaid : Prop := whyIsUptoRow.holds Tryd.pinned (OpenSpec.upto whyIsSpec)

/-- 'tarpaulinlaw16.WhyWraps', WHERE WHAT IT READS IS OF BULK AT MOST 1048576: true; the input reads as it did. -/
def whyWrapsUptoRow : OpenClaim := { program := "ytpdljglamjanmaadoor", sum := "f92bb40f60a009a905d96fc4f5d8dfdc354764f2d7acd8825c2c4dab65ba4d34", func := "tarpaulin/tarpaulinlaw16.WhyWraps", spec := "whyWraps", inPlace := ["internal/reflectlite.ValueOf", "(internal/reflectlite.Value).Type", "(internal/reflectlite.Value).IsNil", "internal/reflectlite.TypeOf", "(internal/reflectlite.Value).Elem", "(internal/reflectlite.Value).Set"], unfollowed := true, recurses := true, named := ["errors.errorType"], apart := false, laid := [("errors.errorType", laid_errors_errorType)], narrowed := true }
def WhyWrapsUptoSaid : Prop := whyWrapsUptoRow.holds Tryd.pinned (OpenSpec.upto whyWrapsSpec)

/-- 'tarpaulinlaw16.WhyDeep', WHERE WHAT IT READS IS OF BULK AT MOST 1048576: true; the input reads as it did. -/
def whyDeepUptoRow : OpenClaim := { program := "ytpdljglamjanmaadoor", sum := "f92bb40f60a009a905d96fc4f5d8dfdc354764f2d7acd8825c2c4dab65ba4d34", func := "tarpaulin/tarpaulinlaw16.WhyDeep", spec := "whyDeep", inPlace := ["internal/reflectlite.ValueOf", "(internal/reflectlite.Value).Type", "(internal/reflectlite.Value).IsNil", "internal/reflectlite.TypeOf", "(internal/reflectlite.Value).Elem", "(internal/reflectlite.Value).Set"], unfollowed := true, recurses := true, named := ["errors.errorType"], apart := false, laid := [("errors.errorType", laid_errors_errorType)], narrowed := true }
def WhyDeepUptoSaid : Prop := whyDeepUptoRow.holds Tryd.pinned (OpenSpec.upto whyDeepSpec)

end Rows
end Go.Proofs.YtpdljglamjanmaaDoor
