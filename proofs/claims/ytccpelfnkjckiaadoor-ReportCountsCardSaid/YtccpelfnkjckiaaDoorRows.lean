/-
  NARROWER THAN 'FOR EVERY INPUT', by the rows' own cells (each row's printed sentence says how): FormulaModels: laid · ReportScores: laid · ReportGroups: laid · ReportAny: laid · ReportLess: laid · ReportFormats: laid · ReportScenes: laid · ReportCounts: laid · ReportOrders: laid.
  DERIVED. THE GIVEN ROWS OF THIS SEAT. 9 by the template 'for every input the law returns true; each argument reads behind the call as it read before'; 0 by the template 'total and deterministic' (their statements: YtccpelfnkjckiaaDoorTotals.lean).
  GIVEN WITH THE SEED: the statements are not yours to turn. If you find one false, say at which input.
  Laid BY PROGRAM, IN A SANDBOX (cutbox-rows.mjs): the forced cells as the released guide's own fill.sh prints them over the translation ad69af30df8dc894… (all of the seat's roots in one cut). By AI agents, Wed Nov 11 2026. No macro, syntax, notation, axiom, sorry.
-/
import Derived.Test.YtccpelfnkjckiaaDoorChecked
import GoSem.Claim
import GoSem.ClaimJoined
import GoSem.ClaimMapViews
import Derived.JoinedTies
import Derived.KernelRfl
namespace Go.Proofs.YtccpelfnkjckiaaDoor
/- THE CELL 'sum', in the pinned program and in every row, IS THE sha256 OF THE DUMP (.gsa) THAT YtccpelfnkjckiaaDoorProg.lean LOADS. Nothing in Lean hashes anything: it is a label: what it is worth is what the hold of that sum in a sandbox is worth. -/
noncomputable def Tryd.pinned : Pinned := { name := "ytccpelfnkjckiaadoor", sum := "ad69af30df8dc894534a057145e5f42a64f13c7af833168e685c5374e310811e", checked := Tryd.checked }
namespace Rows
def none {H : Type} : Left H := { results := [], args := [] }

/- WHAT THE LISTED PACKAGE-LEVEL VARIABLES READ AS WHEN THE CALL BEGINS. Each datum BY PROGRAM (the guide's laid-datum.mjs) off the statement by which the dump's own 'gosem.cut.vars' lays the variable. In a bare row this is a premise. The card (YtccpelfnkjckiaaDoorCards.lean) ties it to the program's text. -/
def laid_math_bits_deBruijn32tab {H : Type} : DataW H := .agg [.lit (.int .u8 0), .lit (.int .u8 1), .lit (.int .u8 28), .lit (.int .u8 2), .lit (.int .u8 29), .lit (.int .u8 14), .lit (.int .u8 24), .lit (.int .u8 3), .lit (.int .u8 30), .lit (.int .u8 22), .lit (.int .u8 20), .lit (.int .u8 15), .lit (.int .u8 25), .lit (.int .u8 17), .lit (.int .u8 4), .lit (.int .u8 8), .lit (.int .u8 31), .lit (.int .u8 27), .lit (.int .u8 13), .lit (.int .u8 23), .lit (.int .u8 21), .lit (.int .u8 19), .lit (.int .u8 16), .lit (.int .u8 7), .lit (.int .u8 26), .lit (.int .u8 12), .lit (.int .u8 18), .lit (.int .u8 6), .lit (.int .u8 11), .lit (.int .u8 5), .lit (.int .u8 10), .lit (.int .u8 9)]
def laid_math_bits_deBruijn64tab {H : Type} : DataW H := .agg [.lit (.int .u8 0), .lit (.int .u8 1), .lit (.int .u8 56), .lit (.int .u8 2), .lit (.int .u8 57), .lit (.int .u8 49), .lit (.int .u8 28), .lit (.int .u8 3), .lit (.int .u8 61), .lit (.int .u8 58), .lit (.int .u8 42), .lit (.int .u8 50), .lit (.int .u8 38), .lit (.int .u8 29), .lit (.int .u8 17), .lit (.int .u8 4), .lit (.int .u8 62), .lit (.int .u8 47), .lit (.int .u8 59), .lit (.int .u8 36), .lit (.int .u8 45), .lit (.int .u8 43), .lit (.int .u8 51), .lit (.int .u8 22), .lit (.int .u8 53), .lit (.int .u8 39), .lit (.int .u8 33), .lit (.int .u8 30), .lit (.int .u8 24), .lit (.int .u8 18), .lit (.int .u8 12), .lit (.int .u8 5), .lit (.int .u8 63), .lit (.int .u8 55), .lit (.int .u8 48), .lit (.int .u8 27), .lit (.int .u8 60), .lit (.int .u8 41), .lit (.int .u8 37), .lit (.int .u8 16), .lit (.int .u8 46), .lit (.int .u8 35), .lit (.int .u8 44), .lit (.int .u8 21), .lit (.int .u8 52), .lit (.int .u8 32), .lit (.int .u8 23), .lit (.int .u8 11), .lit (.int .u8 54), .lit (.int .u8 26), .lit (.int .u8 40), .lit (.int .u8 15), .lit (.int .u8 34), .lit (.int .u8 20), .lit (.int .u8 31), .lit (.int .u8 10), .lit (.int .u8 25), .lit (.int .u8 14), .lit (.int .u8 19), .lit (.int .u8 9), .lit (.int .u8 13), .lit (.int .u8 8), .lit (.int .u8 7), .lit (.int .u8 6)]
def laid_internal_strconv_uint64pow10 {H : Type} : DataW H := .agg [.lit (.int .u64 1), .lit (.int .u64 10), .lit (.int .u64 100), .lit (.int .u64 1000), .lit (.int .u64 10000), .lit (.int .u64 100000), .lit (.int .u64 1000000), .lit (.int .u64 10000000), .lit (.int .u64 100000000), .lit (.int .u64 1000000000), .lit (.int .u64 10000000000), .lit (.int .u64 100000000000), .lit (.int .u64 1000000000000), .lit (.int .u64 10000000000000), .lit (.int .u64 100000000000000), .lit (.int .u64 1000000000000000), .lit (.int .u64 10000000000000000), .lit (.int .u64 100000000000000000), .lit (.int .u64 1000000000000000000), .lit (.int .u64 10000000000000000000)]
def laid_interleave_report_words {H : Type} : DataW H := .agg [.lit (.string [103, 111, 97, 108]), .lit (.string [114, 97, 99, 101]), .lit (.string [100, 101, 97, 100, 108, 111, 99, 107]), .lit (.string [108, 111, 115, 116]), .lit (.string [97, 116, 111, 109, 105, 99])]

/-- 'interleavelaw31.FormulaModels': WHATEVER THE INPUT: true; the input reads as it did. -/
def formulaModelsSpec : ChangeSpec := { name := "formulaModels", fn := fun _ => fun
  | [d1, d2, d3] => { results := [.lit (.bool true)], args := [d1, d2, d3] }
  | _ => none }
def formulaModelsRow : OpenClaim := { program := "ytccpelfnkjckiaadoor", sum := "ad69af30df8dc894534a057145e5f42a64f13c7af833168e685c5374e310811e", func := "interleave/interleavelaw31.FormulaModels", spec := "formulaModels", inPlace := ["internal/abi.NoEscape"], unfollowed := true, recurses := true, named := ["internal/strconv.uint64pow10", "math/bits.deBruijn32tab", "math/bits.deBruijn64tab"], apart := false, laid := [("math/bits.deBruijn32tab", laid_math_bits_deBruijn32tab), ("math/bits.deBruijn64tab", laid_math_bits_deBruijn64tab), ("internal/strconv.uint64pow10", laid_internal_strconv_uint64pow10)] }
def FormulaModelsSaid : Prop := formulaModelsRow.holds Tryd.pinned (OpenSpec.ofChange formulaModelsSpec)

/-- ITS FALSE NEIGHBOUR: 'it returns false'. Refute it at one input. -/
def formulaModelsWrong : ChangeSpec := { name := "formulaModels", fn := fun _ => fun
  | [d1, d2, d3] => { results := [.lit (.bool false)], args := [d1, d2, d3] }
  | _ => none }
def FormulaModelsWrongFalsely : Prop := formulaModelsRow.holds Tryd.pinned (OpenSpec.ofChange formulaModelsWrong)

/-- 'interleavelaw39.ReportScores': WHATEVER THE INPUT: true; the input reads as it did. -/
def reportScoresSpec : ChangeSpec := { name := "reportScores", fn := fun _ => fun
  | [d1, d2, d3] => { results := [.lit (.bool true)], args := [d1, d2, d3] }
  | _ => none }
def reportScoresRow : OpenClaim := { program := "ytccpelfnkjckiaadoor", sum := "ad69af30df8dc894534a057145e5f42a64f13c7af833168e685c5374e310811e", func := "interleave/interleavelaw39.ReportScores", spec := "reportScores", inPlace := ["internal/abi.NoEscape"], unfollowed := true, recurses := true, named := ["interleave/report.words", "internal/strconv.uint64pow10", "math/bits.deBruijn32tab", "math/bits.deBruijn64tab"], apart := false, laid := [("math/bits.deBruijn32tab", laid_math_bits_deBruijn32tab), ("math/bits.deBruijn64tab", laid_math_bits_deBruijn64tab), ("internal/strconv.uint64pow10", laid_internal_strconv_uint64pow10), ("interleave/report.words", laid_interleave_report_words)] }
def ReportScoresSaid : Prop := reportScoresRow.holds Tryd.pinned (OpenSpec.ofChange reportScoresSpec)

/-- ITS FALSE NEIGHBOUR: 'it returns false'. Refute it at one input. -/
def reportScoresWrong : ChangeSpec := { name := "reportScores", fn := fun _ => fun
  | [d1, d2, d3] => { results := [.lit (.bool false)], args := [d1, d2, d3] }
  | _ => none }
def ReportScoresWrongFalsely : Prop := reportScoresRow.holds Tryd.pinned (OpenSpec.ofChange reportScoresWrong)

/-- 'interleavelaw39.ReportGroups': WHATEVER THE INPUT: true; the input reads as it did. -/
def reportGroupsSpec : ChangeSpec := { name := "reportGroups", fn := fun _ => fun
  | [d] => { results := [.lit (.bool true)], args := [d] }
  | _ => none }
def reportGroupsRow : OpenClaim := { program := "ytccpelfnkjckiaadoor", sum := "ad69af30df8dc894534a057145e5f42a64f13c7af833168e685c5374e310811e", func := "interleave/interleavelaw39.ReportGroups", spec := "reportGroups", inPlace := ["internal/abi.NoEscape"], unfollowed := true, recurses := true, named := ["interleave/report.words", "internal/strconv.uint64pow10", "math/bits.deBruijn32tab", "math/bits.deBruijn64tab"], apart := false, laid := [("math/bits.deBruijn32tab", laid_math_bits_deBruijn32tab), ("math/bits.deBruijn64tab", laid_math_bits_deBruijn64tab), ("internal/strconv.uint64pow10", laid_internal_strconv_uint64pow10), ("interleave/report.words", laid_interleave_report_words)] }
def ReportGroupsSaid : Prop := reportGroupsRow.holds Tryd.pinned (OpenSpec.ofChange reportGroupsSpec)

/-- ITS FALSE NEIGHBOUR: 'it returns false'. Refute it at one input. -/
def reportGroupsWrong : ChangeSpec := { name := "reportGroups", fn := fun _ => fun
  | [d] => { results := [.lit (.bool false)], args := [d] }
  | _ => none }
def ReportGroupsWrongFalsely : Prop := reportGroupsRow.holds Tryd.pinned (OpenSpec.ofChange reportGroupsWrong)

/-- 'interleavelaw39.ReportAny': WHATEVER THE INPUT: true; the input reads as it did. -/
def reportAnySpec : ChangeSpec := { name := "reportAny", fn := fun _ => fun
  | [d] => { results := [.lit (.bool true)], args := [d] }
  | _ => none }
def reportAnyRow : OpenClaim := { program := "ytccpelfnkjckiaadoor", sum := "ad69af30df8dc894534a057145e5f42a64f13c7af833168e685c5374e310811e", func := "interleave/interleavelaw39.ReportAny", spec := "reportAny", inPlace := ["internal/abi.NoEscape"], unfollowed := true, recurses := true, named := ["interleave/report.words", "internal/strconv.uint64pow10", "math/bits.deBruijn32tab", "math/bits.deBruijn64tab"], apart := false, laid := [("math/bits.deBruijn32tab", laid_math_bits_deBruijn32tab), ("math/bits.deBruijn64tab", laid_math_bits_deBruijn64tab), ("internal/strconv.uint64pow10", laid_internal_strconv_uint64pow10), ("interleave/report.words", laid_interleave_report_words)] }
def ReportAnySaid : Prop := reportAnyRow.holds Tryd.pinned (OpenSpec.ofChange reportAnySpec)

/-- ITS FALSE NEIGHBOUR: 'it returns false'. Refute it at one input. -/
def reportAnyWrong : ChangeSpec := { name := "reportAny", fn := fun _ => fun
  | [d] => { results := [.lit (.bool false)], args := [d] }
  | _ => none }
def ReportAnyWrongFalsely : Prop := reportAnyRow.holds Tryd.pinned (OpenSpec.ofChange reportAnyWrong)

/-- 'interleavelaw39.ReportLess': WHATEVER THE INPUT: true; the input reads as it did. -/
def reportLessSpec : ChangeSpec := { name := "reportLess", fn := fun _ => fun
  | [d1, d2, d3] => { results := [.lit (.bool true)], args := [d1, d2, d3] }
  | _ => none }
def reportLessRow : OpenClaim := { program := "ytccpelfnkjckiaadoor", sum := "ad69af30df8dc894534a057145e5f42a64f13c7af833168e685c5374e310811e", func := "interleave/interleavelaw39.ReportLess", spec := "reportLess", inPlace := ["internal/abi.NoEscape"], unfollowed := true, recurses := true, named := ["interleave/report.words", "internal/strconv.uint64pow10", "math/bits.deBruijn32tab", "math/bits.deBruijn64tab"], apart := false, laid := [("math/bits.deBruijn32tab", laid_math_bits_deBruijn32tab), ("math/bits.deBruijn64tab", laid_math_bits_deBruijn64tab), ("internal/strconv.uint64pow10", laid_internal_strconv_uint64pow10), ("interleave/report.words", laid_interleave_report_words)] }
def ReportLessSaid : Prop := reportLessRow.holds Tryd.pinned (OpenSpec.ofChange reportLessSpec)

/-- ITS FALSE NEIGHBOUR: 'it returns false'. Refute it at one input. -/
def reportLessWrong : ChangeSpec := { name := "reportLess", fn := fun _ => fun
  | [d1, d2, d3] => { results := [.lit (.bool false)], args := [d1, d2, d3] }
  | _ => none }
def ReportLessWrongFalsely : Prop := reportLessRow.holds Tryd.pinned (OpenSpec.ofChange reportLessWrong)

/-- 'interleavelaw39.ReportFormats': WHATEVER THE INPUT: true; the input reads as it did. -/
def reportFormatsSpec : ChangeSpec := { name := "reportFormats", fn := fun _ => fun
  | [d1, d2, d3] => { results := [.lit (.bool true)], args := [d1, d2, d3] }
  | _ => none }
def reportFormatsRow : OpenClaim := { program := "ytccpelfnkjckiaadoor", sum := "ad69af30df8dc894534a057145e5f42a64f13c7af833168e685c5374e310811e", func := "interleave/interleavelaw39.ReportFormats", spec := "reportFormats", inPlace := ["internal/abi.NoEscape"], unfollowed := true, recurses := true, named := ["interleave/report.words", "internal/strconv.uint64pow10", "math/bits.deBruijn32tab", "math/bits.deBruijn64tab"], apart := false, laid := [("math/bits.deBruijn32tab", laid_math_bits_deBruijn32tab), ("math/bits.deBruijn64tab", laid_math_bits_deBruijn64tab), ("internal/strconv.uint64pow10", laid_internal_strconv_uint64pow10), ("interleave/report.words", laid_interleave_report_words)] }
def ReportFormatsSaid : Prop := reportFormatsRow.holds Tryd.pinned (OpenSpec.ofChange reportFormatsSpec)

/-- ITS FALSE NEIGHBOUR: 'it returns false'. Refute it at one input. -/
def reportFormatsWrong : ChangeSpec := { name := "reportFormats", fn := fun _ => fun
  | [d1, d2, d3] => { results := [.lit (.bool false)], args := [d1, d2, d3] }
  | _ => none }
def ReportFormatsWrongFalsely : Prop := reportFormatsRow.holds Tryd.pinned (OpenSpec.ofChange reportFormatsWrong)

/-- 'interleavelaw39.ReportScenes': WHATEVER THE INPUT: true; the input reads as it did. -/
def reportScenesSpec : ChangeSpec := { name := "reportScenes", fn := fun _ => fun
  | [d] => { results := [.lit (.bool true)], args := [d] }
  | _ => none }
def reportScenesRow : OpenClaim := { program := "ytccpelfnkjckiaadoor", sum := "ad69af30df8dc894534a057145e5f42a64f13c7af833168e685c5374e310811e", func := "interleave/interleavelaw39.ReportScenes", spec := "reportScenes", inPlace := ["internal/abi.NoEscape"], unfollowed := true, recurses := true, named := ["interleave/report.words", "internal/strconv.uint64pow10", "math/bits.deBruijn32tab", "math/bits.deBruijn64tab"], apart := false, laid := [("math/bits.deBruijn32tab", laid_math_bits_deBruijn32tab), ("math/bits.deBruijn64tab", laid_math_bits_deBruijn64tab), ("internal/strconv.uint64pow10", laid_internal_strconv_uint64pow10), ("interleave/report.words", laid_interleave_report_words)] }
def ReportScenesSaid : Prop := reportScenesRow.holds Tryd.pinned (OpenSpec.ofChange reportScenesSpec)

/-- ITS FALSE NEIGHBOUR: 'it returns false'. Refute it at one input. -/
def reportScenesWrong : ChangeSpec := { name := "reportScenes", fn := fun _ => fun
  | [d] => { results := [.lit (.bool false)], args := [d] }
  | _ => none }
def ReportScenesWrongFalsely : Prop := reportScenesRow.holds Tryd.pinned (OpenSpec.ofChange reportScenesWrong)

/-- 'interleavelaw39.ReportCounts': WHATEVER THE INPUT: true; the input reads as it did. -/
def reportCountsSpec : ChangeSpec := { name := "reportCounts", fn := fun _ => fun
  | [d] => { results := [.lit (.bool true)], args := [d] }
  | _ => none }
def reportCountsRow : OpenClaim := { program := "ytccpelfnkjckiaadoor", sum := "ad69af30df8dc894534a057145e5f42a64f13c7af833168e685c5374e310811e", func := "interleave/interleavelaw39.ReportCounts", spec := "reportCounts", inPlace := ["internal/abi.NoEscape"], unfollowed := true, recurses := true, named := ["interleave/report.words", "internal/strconv.uint64pow10", "math/bits.deBruijn32tab", "math/bits.deBruijn64tab"], apart := false, laid := [("math/bits.deBruijn32tab", laid_math_bits_deBruijn32tab), ("math/bits.deBruijn64tab", laid_math_bits_deBruijn64tab), ("internal/strconv.uint64pow10", laid_internal_strconv_uint64pow10), ("interleave/report.words", laid_interleave_report_words)] }
def ReportCountsSaid : Prop := reportCountsRow.holds Tryd.pinned (OpenSpec.ofChange reportCountsSpec)

/-- ITS FALSE NEIGHBOUR: 'it returns false'. Refute it at one input. -/
def reportCountsWrong : ChangeSpec := { name := "reportCounts", fn := fun _ => fun
  | [d] => { results := [.lit (.bool false)], args := [d] }
  | _ => none }
def ReportCountsWrongFalsely : Prop := reportCountsRow.holds Tryd.pinned (OpenSpec.ofChange reportCountsWrong)

/-- 'interleavelaw39.ReportOrders': WHATEVER THE INPUT: true; the input reads as it did. -/
def reportOrdersSpec : ChangeSpec := { name := "reportOrders", fn := fun _ => fun
  | [d1, d2] => { results := [.lit (.bool true)], args := [d1, d2] }
  | _ => none }
def reportOrdersRow : OpenClaim := { program := "ytccpelfnkjckiaadoor", sum := "ad69af30df8dc894534a057145e5f42a64f13c7af833168e685c5374e310811e", func := "interleave/interleavelaw39.ReportOrders", spec := "reportOrders", inPlace := ["internal/abi.NoEscape"], unfollowed := true, recurses := true, named := ["interleave/report.words", "internal/strconv.uint64pow10", "math/bits.deBruijn32tab", "math/bits.deBruijn64tab"], apart := false, laid := [("math/bits.deBruijn32tab", laid_math_bits_deBruijn32tab), ("math/bits.deBruijn64tab", laid_math_bits_deBruijn64tab), ("internal/strconv.uint64pow10", laid_internal_strconv_uint64pow10), ("interleave/report.words", laid_interleave_report_words)] }
def ReportOrdersSaid : Prop := reportOrdersRow.holds Tryd.pinned (OpenSpec.ofChange reportOrdersSpec)

/-- ITS FALSE NEIGHBOUR: 'it returns false'. Refute it at one input. -/
def reportOrdersWrong : ChangeSpec := { name := "reportOrders", fn := fun _ => fun
  | [d1, d2] => { results := [.lit (.bool false)], args := [d1, d2] }
  | _ => none }
def ReportOrdersWrongFalsely : Prop := reportOrdersRow.holds Tryd.pinned (OpenSpec.ofChange reportOrdersWrong)

/- THE SECOND FORM. 'bulk': how many values and letters a reading holds, each counted each time it is reached (what is shared counts as often as it is met; a slice's spare places count too). A statement '..UptoSaid' is the law's where the arguments, and the package variables that the reading takes, are together of bulk at most 1048576: NARROWER than '..Said'. Prove '..Said' where nothing that the law and all that it calls make is longer than what came in: it says more and counts as full. Else prove '..UptoSaid'. A law counts once. -/
mutual
def uptoBulk {H : Type} : DataW H → Nat
  | .lit (.string bytes) => bytes.length + 1
  | .lit _ => 1
  | .nil => 1
  | .ptr d => uptoBulk d + 1
  | .slice elems spare => uptoBulkAll elems + uptoBulkAll spare + 1
  | .agg parts => uptoBulkAll parts + 1
  | .iface _ d => uptoBulk d + 1
  | .map entries => uptoBulkEntries entries + 1
  | .held _ => 1
def uptoBulkAll {H : Type} : List (DataW H) → Nat
  | [] => 0
  | d :: r => uptoBulk d + uptoBulkAll r
def uptoBulkEntries {H : Type} : List (Lit × DataW H) → Nat
  | [] => 0
  | x :: r => uptoBulkEntry x + uptoBulkEntries r
def uptoBulkEntry {H : Type} : Lit × DataW H → Nat
  | (.string bytes, d) => bytes.length + uptoBulk d + 1
  | (_, d) => uptoBulk d + 1
 end
def uptoSmall : (H : Type) → List (DataW H) → Bool := fun _ ds => decide (uptoBulkAll ds ≤ 1048576)
def OpenSpec.upto (s : _root_.Go.ChangeSpec) : _root_.Go.OpenSpec := { _root_.Go.OpenSpec.ofChange s with cond := some uptoSmall }

/-- 'interleavelaw31.FormulaModels', WHERE WHAT IT READS IS OF BULK AT MOST 1048576: true; the input reads as it did. -/
def formulaModelsUptoRow : OpenClaim := { program := "ytccpelfnkjckiaadoor", sum := "ad69af30df8dc894534a057145e5f42a64f13c7af833168e685c5374e310811e", func := "interleave/interleavelaw31.FormulaModels", spec := "formulaModels", inPlace := ["internal/abi.NoEscape"], unfollowed := true, recurses := true, named := ["internal/strconv.uint64pow10", "math/bits.deBruijn32tab", "math/bits.deBruijn64tab"], apart := false, laid := [("math/bits.deBruijn32tab", laid_math_bits_deBruijn32tab), ("math/bits.deBruijn64tab", laid_math_bits_deBruijn64tab), ("internal/strconv.uint64pow10", laid_internal_strconv_uint64pow10)], narrowed := true }
def FormulaModelsUptoSaid : Prop := formulaModelsUptoRow.holds Tryd.pinned (OpenSpec.upto formulaModelsSpec)

/-- 'interleavelaw39.ReportScores', WHERE WHAT IT READS IS OF BULK AT MOST 1048576: true; the input reads as it did. -/
def reportScoresUptoRow : OpenClaim := { program := "ytccpelfnkjckiaadoor", sum := "ad69af30df8dc894534a057145e5f42a64f13c7af833168e685c5374e310811e", func := "interleave/interleavelaw39.ReportScores", spec := "reportScores", inPlace := ["internal/abi.NoEscape"], unfollowed := true, recurses := true, named := ["interleave/report.words", "internal/strconv.uint64pow10", "math/bits.deBruijn32tab", "math/bits.deBruijn64tab"], apart := false, laid := [("math/bits.deBruijn32tab", laid_math_bits_deBruijn32tab), ("math/bits.deBruijn64tab", laid_math_bits_deBruijn64tab), ("internal/strconv.uint64pow10", laid_internal_strconv_uint64pow10), ("interleave/report.words", laid_interleave_report_words)], narrowed := true }
def ReportScoresUptoSaid : Prop := reportScoresUptoRow.holds Tryd.pinned (OpenSpec.upto reportScoresSpec)

/-- 'interleavelaw39.ReportGroups', WHERE WHAT IT READS IS OF BULK AT MOST 1048576: true; the input reads as it did. -/
def reportGroupsUptoRow : OpenClaim := { program := "ytccpelfnkjckiaadoor", sum := "ad69af30df8dc894534a057145e5f42a64f13c7af833168e685c5374e310811e", func := "interleave/interleavelaw39.ReportGroups", spec := "reportGroups", inPlace := ["internal/abi.NoEscape"], unfollowed := true, recurses := true, named := ["interleave/report.words", "internal/strconv.uint64pow10", "math/bits.deBruijn32tab", "math/bits.deBruijn64tab"], apart := false, laid := [("math/bits.deBruijn32tab", laid_math_bits_deBruijn32tab), ("math/bits.deBruijn64tab", laid_math_bits_deBruijn64tab), ("internal/strconv.uint64pow10", laid_internal_strconv_uint64pow10), ("interleave/report.words", laid_interleave_report_words)], narrowed := true }
def ReportGroupsUptoSaid : Prop := reportGroupsUptoRow.holds Tryd.pinned (OpenSpec.upto reportGroupsSpec)

/-- 'interleavelaw39.ReportAny', WHERE WHAT IT READS IS OF BULK AT MOST 1048576: true; the input reads as it did. -/
def reportAnyUptoRow : OpenClaim := { program := "ytccpelfnkjckiaadoor", sum := "ad69af30df8dc894534a057145e5f42a64f13c7af833168e685c5374e310811e", func := "interleave/interleavelaw39.ReportAny", spec := "reportAny", inPlace := ["internal/abi.NoEscape"], unfollowed := true, recurses := true, named := ["interleave/report.words", "internal/strconv.uint64pow10", "math/bits.deBruijn32tab", "math/bits.deBruijn64tab"], apart := false, laid := [("math/bits.deBruijn32tab", laid_math_bits_deBruijn32tab), ("math/bits.deBruijn64tab", laid_math_bits_deBruijn64tab), ("internal/strconv.uint64pow10", laid_internal_strconv_uint64pow10), ("interleave/report.words", laid_interleave_report_words)], narrowed := true }
def ReportAnyUptoSaid : Prop := reportAnyUptoRow.holds Tryd.pinned (OpenSpec.upto reportAnySpec)

/-- 'interleavelaw39.ReportLess', WHERE WHAT IT READS IS OF BULK AT MOST 1048576: true; the input reads as it did. -/
def reportLessUptoRow : OpenClaim := { program := "ytccpelfnkjckiaadoor", sum := "ad69af30df8dc894534a057145e5f42a64f13c7af833168e685c5374e310811e", func := "interleave/interleavelaw39.ReportLess", spec := "reportLess", inPlace := ["internal/abi.NoEscape"], unfollowed := true, recurses := true, named := ["interleave/report.words", "internal/strconv.uint64pow10", "math/bits.deBruijn32tab", "math/bits.deBruijn64tab"], apart := false, laid := [("math/bits.deBruijn32tab", laid_math_bits_deBruijn32tab), ("math/bits.deBruijn64tab", laid_math_bits_deBruijn64tab), ("internal/strconv.uint64pow10", laid_internal_strconv_uint64pow10), ("interleave/report.words", laid_interleave_report_words)], narrowed := true }
def ReportLessUptoSaid : Prop := reportLessUptoRow.holds Tryd.pinned (OpenSpec.upto reportLessSpec)

/-- 'interleavelaw39.ReportFormats', WHERE WHAT IT READS IS OF BULK AT MOST 1048576: true; the input reads as it did. -/
def reportFormatsUptoRow : OpenClaim := { program := "ytccpelfnkjckiaadoor", sum := "ad69af30df8dc894534a057145e5f42a64f13c7af833168e685c5374e310811e", func := "interleave/interleavelaw39.ReportFormats", spec := "reportFormats", inPlace := ["internal/abi.NoEscape"], unfollowed := true, recurses := true, named := ["interleave/report.words", "internal/strconv.uint64pow10", "math/bits.deBruijn32tab", "math/bits.deBruijn64tab"], apart := false, laid := [("math/bits.deBruijn32tab", laid_math_bits_deBruijn32tab), ("math/bits.deBruijn64tab", laid_math_bits_deBruijn64tab), ("internal/strconv.uint64pow10", laid_internal_strconv_uint64pow10), ("interleave/report.words", laid_interleave_report_words)], narrowed := true }
def ReportFormatsUptoSaid : Prop := reportFormatsUptoRow.holds Tryd.pinned (OpenSpec.upto reportFormatsSpec)

/-- 'interleavelaw39.ReportScenes', WHERE WHAT IT READS IS OF BULK AT MOST 1048576: true; the input reads as it did. -/
def reportScenesUptoRow : OpenClaim := { program := "ytccpelfnkjckiaadoor", sum := "ad69af30df8dc894534a057145e5f42a64f13c7af833168e685c5374e310811e", func := "interleave/interleavelaw39.ReportScenes", spec := "reportScenes", inPlace := ["internal/abi.NoEscape"], unfollowed := true, recurses := true, named := ["interleave/report.words", "internal/strconv.uint64pow10", "math/bits.deBruijn32tab", "math/bits.deBruijn64tab"], apart := false, laid := [("math/bits.deBruijn32tab", laid_math_bits_deBruijn32tab), ("math/bits.deBruijn64tab", laid_math_bits_deBruijn64tab), ("internal/strconv.uint64pow10", laid_internal_strconv_uint64pow10), ("interleave/report.words", laid_interleave_report_words)], narrowed := true }
def ReportScenesUptoSaid : Prop := reportScenesUptoRow.holds Tryd.pinned (OpenSpec.upto reportScenesSpec)

/-- 'interleavelaw39.ReportCounts', WHERE WHAT IT READS IS OF BULK AT MOST 1048576: true; the input reads as it did. -/
def reportCountsUptoRow : OpenClaim := { program := "ytccpelfnkjckiaadoor", sum := "ad69af30df8dc894534a057145e5f42a64f13c7af833168e685c5374e310811e", func := "interleave/interleavelaw39.ReportCounts", spec := "reportCounts", inPlace := ["internal/abi.NoEscape"], unfollowed := true, recurses := true, named := ["interleave/report.words", "internal/strconv.uint64pow10", "math/bits.deBruijn32tab", "math/bits.deBruijn64tab"], apart := false, laid := [("math/bits.deBruijn32tab", laid_math_bits_deBruijn32tab), ("math/bits.deBruijn64tab", laid_math_bits_deBruijn64tab), ("internal/strconv.uint64pow10", laid_internal_strconv_uint64pow10), ("interleave/report.words", laid_interleave_report_words)], narrowed := true }
def ReportCountsUptoSaid : Prop := reportCountsUptoRow.holds Tryd.pinned (OpenSpec.upto reportCountsSpec)

/-- 'interleavelaw39.ReportOrders', WHERE WHAT IT READS IS OF BULK AT MOST 1048576: true; the input reads as it did. -/
def reportOrdersUptoRow : OpenClaim := { program := "ytccpelfnkjckiaadoor", sum := "ad69af30df8dc894534a057145e5f42a64f13c7af833168e685c5374e310811e", func := "interleave/interleavelaw39.ReportOrders", spec := "reportOrders", inPlace := ["internal/abi.NoEscape"], unfollowed := true, recurses := true, named := ["interleave/report.words", "internal/strconv.uint64pow10", "math/bits.deBruijn32tab", "math/bits.deBruijn64tab"], apart := false, laid := [("math/bits.deBruijn32tab", laid_math_bits_deBruijn32tab), ("math/bits.deBruijn64tab", laid_math_bits_deBruijn64tab), ("internal/strconv.uint64pow10", laid_internal_strconv_uint64pow10), ("interleave/report.words", laid_interleave_report_words)], narrowed := true }
def ReportOrdersUptoSaid : Prop := reportOrdersUptoRow.holds Tryd.pinned (OpenSpec.upto reportOrdersSpec)

end Rows
end Go.Proofs.YtccpelfnkjckiaaDoor
