/-
  NARROWER THAN 'FOR EVERY INPUT', by the rows' own cells (each row's printed sentence says how): ViewLong: laid · ViewPlays: laid · ViewAlone: laid · ViewFrame: laid · VersionsChanges: laid · TaintAlone: laid · VersionsOf: laid · TaintErrors: laid · VersionsConsistent: laid · VersionsBuilds: laid · TaintOrigins: laid · TaintStays: laid · TaintFiles: laid · TaintChains: laid · TaintSlices: laid.
  DERIVED. THE GIVEN ROWS OF THIS SEAT. 15 by the template 'for every input the law returns true; each argument reads behind the call as it read before'; 0 by the template 'total and deterministic' (their statements: YtkiojenkpbkjpaaGreatDoorTotals.lean).
  GIVEN WITH THE SEED: the statements are not yours to turn. If you find one false, say at which input.
  Laid BY PROGRAM, IN A SANDBOX (cutbox-rows.mjs): the forced cells as the released guide's own fill.sh prints them over the translation a297c8f3a27606f0… (all of the seat's roots in one cut). By AI agents, Wed Nov 11 2026. No macro, syntax, notation, axiom, sorry.
-/
import Derived.Test.YtkiojenkpbkjpaaGreatDoorChecked
import GoSem.Claim
import GoSem.ClaimJoined
import GoSem.ClaimMapViews
import Derived.JoinedTies
import Derived.KernelRfl
namespace Go.Proofs.YtkiojenkpbkjpaaGreatDoor
/- THE CELL 'sum', in the pinned program and in every row, IS THE sha256 OF THE DUMP (.gsa) THAT YtkiojenkpbkjpaaGreatDoorProg.lean LOADS. Nothing in Lean hashes anything: it is a label: what it is worth is what the hold of that sum in a sandbox is worth. -/
noncomputable def Tryz.pinned : Pinned := { name := "ytkiojenkpbkjpaagreatdoor", sum := "a297c8f3a27606f085077a359de3fe7048e5ac1a53595c90da922161182fd252", checked := Tryz.checked }
namespace Rows
def none {H : Type} : Left H := { results := [], args := [] }

/- WHAT THE LISTED PACKAGE-LEVEL VARIABLES READ AS WHEN THE CALL BEGINS. Each datum BY PROGRAM (the guide's laid-datum.mjs) off the statement by which the dump's own 'gosem.cut.vars' lays the variable. In a bare row this is a premise. The card (YtkiojenkpbkjpaaGreatDoorCards.lean) ties it to the program's text. -/
def laid_math_bits_deBruijn32tab {H : Type} : DataW H := .agg [.lit (.int .u8 0), .lit (.int .u8 1), .lit (.int .u8 28), .lit (.int .u8 2), .lit (.int .u8 29), .lit (.int .u8 14), .lit (.int .u8 24), .lit (.int .u8 3), .lit (.int .u8 30), .lit (.int .u8 22), .lit (.int .u8 20), .lit (.int .u8 15), .lit (.int .u8 25), .lit (.int .u8 17), .lit (.int .u8 4), .lit (.int .u8 8), .lit (.int .u8 31), .lit (.int .u8 27), .lit (.int .u8 13), .lit (.int .u8 23), .lit (.int .u8 21), .lit (.int .u8 19), .lit (.int .u8 16), .lit (.int .u8 7), .lit (.int .u8 26), .lit (.int .u8 12), .lit (.int .u8 18), .lit (.int .u8 6), .lit (.int .u8 11), .lit (.int .u8 5), .lit (.int .u8 10), .lit (.int .u8 9)]
def laid_math_bits_deBruijn64tab {H : Type} : DataW H := .agg [.lit (.int .u8 0), .lit (.int .u8 1), .lit (.int .u8 56), .lit (.int .u8 2), .lit (.int .u8 57), .lit (.int .u8 49), .lit (.int .u8 28), .lit (.int .u8 3), .lit (.int .u8 61), .lit (.int .u8 58), .lit (.int .u8 42), .lit (.int .u8 50), .lit (.int .u8 38), .lit (.int .u8 29), .lit (.int .u8 17), .lit (.int .u8 4), .lit (.int .u8 62), .lit (.int .u8 47), .lit (.int .u8 59), .lit (.int .u8 36), .lit (.int .u8 45), .lit (.int .u8 43), .lit (.int .u8 51), .lit (.int .u8 22), .lit (.int .u8 53), .lit (.int .u8 39), .lit (.int .u8 33), .lit (.int .u8 30), .lit (.int .u8 24), .lit (.int .u8 18), .lit (.int .u8 12), .lit (.int .u8 5), .lit (.int .u8 63), .lit (.int .u8 55), .lit (.int .u8 48), .lit (.int .u8 27), .lit (.int .u8 60), .lit (.int .u8 41), .lit (.int .u8 37), .lit (.int .u8 16), .lit (.int .u8 46), .lit (.int .u8 35), .lit (.int .u8 44), .lit (.int .u8 21), .lit (.int .u8 52), .lit (.int .u8 32), .lit (.int .u8 23), .lit (.int .u8 11), .lit (.int .u8 54), .lit (.int .u8 26), .lit (.int .u8 40), .lit (.int .u8 15), .lit (.int .u8 34), .lit (.int .u8 20), .lit (.int .u8 31), .lit (.int .u8 10), .lit (.int .u8 25), .lit (.int .u8 14), .lit (.int .u8 19), .lit (.int .u8 9), .lit (.int .u8 13), .lit (.int .u8 8), .lit (.int .u8 7), .lit (.int .u8 6)]
def laid_internal_strconv_uint64pow10 {H : Type} : DataW H := .agg [.lit (.int .u64 1), .lit (.int .u64 10), .lit (.int .u64 100), .lit (.int .u64 1000), .lit (.int .u64 10000), .lit (.int .u64 100000), .lit (.int .u64 1000000), .lit (.int .u64 10000000), .lit (.int .u64 100000000), .lit (.int .u64 1000000000), .lit (.int .u64 10000000000), .lit (.int .u64 100000000000), .lit (.int .u64 1000000000000), .lit (.int .u64 10000000000000), .lit (.int .u64 100000000000000), .lit (.int .u64 1000000000000000), .lit (.int .u64 10000000000000000), .lit (.int .u64 100000000000000000), .lit (.int .u64 1000000000000000000), .lit (.int .u64 10000000000000000000)]
def laid_strconv_ErrRange {H : Type} : DataW H := .iface "*errors.errorString" (.ptr (.agg [.lit (.string [118, 97, 108, 117, 101, 32, 111, 117, 116, 32, 111, 102, 32, 114, 97, 110, 103, 101])]))
def laid_strconv_ErrSyntax {H : Type} : DataW H := .iface "*errors.errorString" (.ptr (.agg [.lit (.string [105, 110, 118, 97, 108, 105, 100, 32, 115, 121, 110, 116, 97, 120])]))

/-- 'replevinlaw24.ViewLong': WHATEVER THE INPUT: true; the input reads as it did. -/
def viewLongSpec : ChangeSpec := { name := "viewLong", fn := fun _ => fun
  | [d1, d2] => { results := [.lit (.bool true)], args := [d1, d2] }
  | _ => none }
def viewLongRow : OpenClaim := { program := "ytkiojenkpbkjpaagreatdoor", sum := "a297c8f3a27606f085077a359de3fe7048e5ac1a53595c90da922161182fd252", func := "replevin/replevinlaw24.ViewLong", spec := "viewLong", inPlace := ["internal/bytealg.abigen_runtime_cmpstring"], unfollowed := true, recurses := true, named := ["strconv.ErrSyntax", "strconv.ErrRange", "internal/strconv.uint64pow10", "math/bits.deBruijn32tab", "math/bits.deBruijn64tab"], plainKeys := false, apart := false, laid := [("math/bits.deBruijn32tab", laid_math_bits_deBruijn32tab), ("math/bits.deBruijn64tab", laid_math_bits_deBruijn64tab), ("internal/strconv.uint64pow10", laid_internal_strconv_uint64pow10), ("strconv.ErrRange", laid_strconv_ErrRange), ("strconv.ErrSyntax", laid_strconv_ErrSyntax)] }
def ViewLongSaid : Prop := viewLongRow.holds Tryz.pinned (OpenSpec.ofChange viewLongSpec)

/-- ITS FALSE NEIGHBOUR: 'it returns false'. Refute it at one input. -/
def viewLongWrong : ChangeSpec := { name := "viewLong", fn := fun _ => fun
  | [d1, d2] => { results := [.lit (.bool false)], args := [d1, d2] }
  | _ => none }
def ViewLongWrongFalsely : Prop := viewLongRow.holds Tryz.pinned (OpenSpec.ofChange viewLongWrong)

/-- 'replevinlaw24.ViewPlays': WHATEVER THE INPUT: true; the input reads as it did. -/
def viewPlaysSpec : ChangeSpec := { name := "viewPlays", fn := fun _ => fun
  | [d1, d2] => { results := [.lit (.bool true)], args := [d1, d2] }
  | _ => none }
def viewPlaysRow : OpenClaim := { program := "ytkiojenkpbkjpaagreatdoor", sum := "a297c8f3a27606f085077a359de3fe7048e5ac1a53595c90da922161182fd252", func := "replevin/replevinlaw24.ViewPlays", spec := "viewPlays", inPlace := ["internal/bytealg.abigen_runtime_cmpstring"], unfollowed := true, recurses := true, named := ["strconv.ErrSyntax", "strconv.ErrRange", "internal/strconv.uint64pow10", "math/bits.deBruijn32tab", "math/bits.deBruijn64tab"], plainKeys := false, apart := false, laid := [("math/bits.deBruijn32tab", laid_math_bits_deBruijn32tab), ("math/bits.deBruijn64tab", laid_math_bits_deBruijn64tab), ("internal/strconv.uint64pow10", laid_internal_strconv_uint64pow10), ("strconv.ErrRange", laid_strconv_ErrRange), ("strconv.ErrSyntax", laid_strconv_ErrSyntax)] }
def ViewPlaysSaid : Prop := viewPlaysRow.holds Tryz.pinned (OpenSpec.ofChange viewPlaysSpec)

/-- ITS FALSE NEIGHBOUR: 'it returns false'. Refute it at one input. -/
def viewPlaysWrong : ChangeSpec := { name := "viewPlays", fn := fun _ => fun
  | [d1, d2] => { results := [.lit (.bool false)], args := [d1, d2] }
  | _ => none }
def ViewPlaysWrongFalsely : Prop := viewPlaysRow.holds Tryz.pinned (OpenSpec.ofChange viewPlaysWrong)

/-- 'replevinlaw24.ViewAlone': WHATEVER THE INPUT: true; the input reads as it did. -/
def viewAloneSpec : ChangeSpec := { name := "viewAlone", fn := fun _ => fun
  | [d1, d2, d3] => { results := [.lit (.bool true)], args := [d1, d2, d3] }
  | _ => none }
def viewAloneRow : OpenClaim := { program := "ytkiojenkpbkjpaagreatdoor", sum := "a297c8f3a27606f085077a359de3fe7048e5ac1a53595c90da922161182fd252", func := "replevin/replevinlaw24.ViewAlone", spec := "viewAlone", inPlace := ["internal/bytealg.abigen_runtime_cmpstring"], unfollowed := true, recurses := true, named := ["strconv.ErrSyntax", "strconv.ErrRange", "internal/strconv.uint64pow10", "math/bits.deBruijn32tab", "math/bits.deBruijn64tab"], plainKeys := false, apart := false, laid := [("math/bits.deBruijn32tab", laid_math_bits_deBruijn32tab), ("math/bits.deBruijn64tab", laid_math_bits_deBruijn64tab), ("internal/strconv.uint64pow10", laid_internal_strconv_uint64pow10), ("strconv.ErrRange", laid_strconv_ErrRange), ("strconv.ErrSyntax", laid_strconv_ErrSyntax)] }
def ViewAloneSaid : Prop := viewAloneRow.holds Tryz.pinned (OpenSpec.ofChange viewAloneSpec)

/-- ITS FALSE NEIGHBOUR: 'it returns false'. Refute it at one input. -/
def viewAloneWrong : ChangeSpec := { name := "viewAlone", fn := fun _ => fun
  | [d1, d2, d3] => { results := [.lit (.bool false)], args := [d1, d2, d3] }
  | _ => none }
def ViewAloneWrongFalsely : Prop := viewAloneRow.holds Tryz.pinned (OpenSpec.ofChange viewAloneWrong)

/-- 'replevinlaw24.ViewFrame': WHATEVER THE INPUT: true; the input reads as it did. -/
def viewFrameSpec : ChangeSpec := { name := "viewFrame", fn := fun _ => fun
  | [d1, d2, d3] => { results := [.lit (.bool true)], args := [d1, d2, d3] }
  | _ => none }
def viewFrameRow : OpenClaim := { program := "ytkiojenkpbkjpaagreatdoor", sum := "a297c8f3a27606f085077a359de3fe7048e5ac1a53595c90da922161182fd252", func := "replevin/replevinlaw24.ViewFrame", spec := "viewFrame", inPlace := ["internal/bytealg.abigen_runtime_cmpstring"], unfollowed := true, recurses := true, named := ["strconv.ErrSyntax", "strconv.ErrRange", "internal/strconv.uint64pow10", "math/bits.deBruijn32tab", "math/bits.deBruijn64tab"], plainKeys := false, apart := false, laid := [("math/bits.deBruijn32tab", laid_math_bits_deBruijn32tab), ("math/bits.deBruijn64tab", laid_math_bits_deBruijn64tab), ("internal/strconv.uint64pow10", laid_internal_strconv_uint64pow10), ("strconv.ErrRange", laid_strconv_ErrRange), ("strconv.ErrSyntax", laid_strconv_ErrSyntax)] }
def ViewFrameSaid : Prop := viewFrameRow.holds Tryz.pinned (OpenSpec.ofChange viewFrameSpec)

/-- ITS FALSE NEIGHBOUR: 'it returns false'. Refute it at one input. -/
def viewFrameWrong : ChangeSpec := { name := "viewFrame", fn := fun _ => fun
  | [d1, d2, d3] => { results := [.lit (.bool false)], args := [d1, d2, d3] }
  | _ => none }
def ViewFrameWrongFalsely : Prop := viewFrameRow.holds Tryz.pinned (OpenSpec.ofChange viewFrameWrong)

/-- 'replevinlaw46.VersionsChanges': WHATEVER THE INPUT: true; the input reads as it did. -/
def versionsChangesSpec : ChangeSpec := { name := "versionsChanges", fn := fun _ => fun
  | [d1, d2, d3] => { results := [.lit (.bool true)], args := [d1, d2, d3] }
  | _ => none }
def versionsChangesRow : OpenClaim := { program := "ytkiojenkpbkjpaagreatdoor", sum := "a297c8f3a27606f085077a359de3fe7048e5ac1a53595c90da922161182fd252", func := "replevin/replevinlaw46.VersionsChanges", spec := "versionsChanges", inPlace := ["internal/bytealg.abigen_runtime_cmpstring"], unfollowed := true, recurses := true, named := ["strconv.ErrSyntax", "strconv.ErrRange", "internal/strconv.uint64pow10", "math/bits.deBruijn32tab", "math/bits.deBruijn64tab"], plainKeys := false, apart := false, laid := [("math/bits.deBruijn32tab", laid_math_bits_deBruijn32tab), ("math/bits.deBruijn64tab", laid_math_bits_deBruijn64tab), ("internal/strconv.uint64pow10", laid_internal_strconv_uint64pow10), ("strconv.ErrRange", laid_strconv_ErrRange), ("strconv.ErrSyntax", laid_strconv_ErrSyntax)] }
def VersionsChangesSaid : Prop := versionsChangesRow.holds Tryz.pinned (OpenSpec.ofChange versionsChangesSpec)

/-- ITS FALSE NEIGHBOUR: 'it returns false'. Refute it at one input. -/
def versionsChangesWrong : ChangeSpec := { name := "versionsChanges", fn := fun _ => fun
  | [d1, d2, d3] => { results := [.lit (.bool false)], args := [d1, d2, d3] }
  | _ => none }
def VersionsChangesWrongFalsely : Prop := versionsChangesRow.holds Tryz.pinned (OpenSpec.ofChange versionsChangesWrong)

/-- 'replevinlaw54.TaintAlone': WHATEVER THE INPUT: true; the input reads as it did. -/
def taintAloneSpec : ChangeSpec := { name := "taintAlone", fn := fun _ => fun
  | [d1, d2, d3] => { results := [.lit (.bool true)], args := [d1, d2, d3] }
  | _ => none }
def taintAloneRow : OpenClaim := { program := "ytkiojenkpbkjpaagreatdoor", sum := "a297c8f3a27606f085077a359de3fe7048e5ac1a53595c90da922161182fd252", func := "replevin/replevinlaw54.TaintAlone", spec := "taintAlone", inPlace := ["internal/bytealg.abigen_runtime_cmpstring"], unfollowed := true, recurses := true, named := ["strconv.ErrSyntax", "strconv.ErrRange", "internal/strconv.uint64pow10", "math/bits.deBruijn32tab", "math/bits.deBruijn64tab"], plainKeys := false, apart := false, laid := [("math/bits.deBruijn32tab", laid_math_bits_deBruijn32tab), ("math/bits.deBruijn64tab", laid_math_bits_deBruijn64tab), ("internal/strconv.uint64pow10", laid_internal_strconv_uint64pow10), ("strconv.ErrRange", laid_strconv_ErrRange), ("strconv.ErrSyntax", laid_strconv_ErrSyntax)] }
def TaintAloneSaid : Prop := taintAloneRow.holds Tryz.pinned (OpenSpec.ofChange taintAloneSpec)

/-- ITS FALSE NEIGHBOUR: 'it returns false'. Refute it at one input. -/
def taintAloneWrong : ChangeSpec := { name := "taintAlone", fn := fun _ => fun
  | [d1, d2, d3] => { results := [.lit (.bool false)], args := [d1, d2, d3] }
  | _ => none }
def TaintAloneWrongFalsely : Prop := taintAloneRow.holds Tryz.pinned (OpenSpec.ofChange taintAloneWrong)

/-- 'replevinlaw46.VersionsOf': WHATEVER THE INPUT: true; the input reads as it did. -/
def versionsOfSpec : ChangeSpec := { name := "versionsOf", fn := fun _ => fun
  | [d1, d2] => { results := [.lit (.bool true)], args := [d1, d2] }
  | _ => none }
def versionsOfRow : OpenClaim := { program := "ytkiojenkpbkjpaagreatdoor", sum := "a297c8f3a27606f085077a359de3fe7048e5ac1a53595c90da922161182fd252", func := "replevin/replevinlaw46.VersionsOf", spec := "versionsOf", inPlace := ["internal/bytealg.abigen_runtime_cmpstring"], unfollowed := true, recurses := true, named := ["strconv.ErrSyntax", "strconv.ErrRange", "internal/strconv.uint64pow10", "math/bits.deBruijn32tab", "math/bits.deBruijn64tab"], plainKeys := false, apart := false, laid := [("math/bits.deBruijn32tab", laid_math_bits_deBruijn32tab), ("math/bits.deBruijn64tab", laid_math_bits_deBruijn64tab), ("internal/strconv.uint64pow10", laid_internal_strconv_uint64pow10), ("strconv.ErrRange", laid_strconv_ErrRange), ("strconv.ErrSyntax", laid_strconv_ErrSyntax)] }
def VersionsOfSaid : Prop := versionsOfRow.holds Tryz.pinned (OpenSpec.ofChange versionsOfSpec)

/-- ITS FALSE NEIGHBOUR: 'it returns false'. Refute it at one input. -/
def versionsOfWrong : ChangeSpec := { name := "versionsOf", fn := fun _ => fun
  | [d1, d2] => { results := [.lit (.bool false)], args := [d1, d2] }
  | _ => none }
def VersionsOfWrongFalsely : Prop := versionsOfRow.holds Tryz.pinned (OpenSpec.ofChange versionsOfWrong)

/-- 'replevinlaw54.TaintErrors': WHATEVER THE INPUT: true; the input reads as it did. -/
def taintErrorsSpec : ChangeSpec := { name := "taintErrors", fn := fun _ => fun
  | [d1, d2, d3] => { results := [.lit (.bool true)], args := [d1, d2, d3] }
  | _ => none }
def taintErrorsRow : OpenClaim := { program := "ytkiojenkpbkjpaagreatdoor", sum := "a297c8f3a27606f085077a359de3fe7048e5ac1a53595c90da922161182fd252", func := "replevin/replevinlaw54.TaintErrors", spec := "taintErrors", inPlace := ["internal/bytealg.abigen_runtime_cmpstring", "internal/abi.NoEscape", "internal/bytealg.MakeNoZero"], unfollowed := true, recurses := true, named := ["strconv.ErrSyntax", "strconv.ErrRange", "internal/strconv.uint64pow10", "math/bits.deBruijn32tab", "math/bits.deBruijn64tab"], plainKeys := false, apart := false, laid := [("math/bits.deBruijn32tab", laid_math_bits_deBruijn32tab), ("math/bits.deBruijn64tab", laid_math_bits_deBruijn64tab), ("internal/strconv.uint64pow10", laid_internal_strconv_uint64pow10), ("strconv.ErrRange", laid_strconv_ErrRange), ("strconv.ErrSyntax", laid_strconv_ErrSyntax)] }
def TaintErrorsSaid : Prop := taintErrorsRow.holds Tryz.pinned (OpenSpec.ofChange taintErrorsSpec)

/-- ITS FALSE NEIGHBOUR: 'it returns false'. Refute it at one input. -/
def taintErrorsWrong : ChangeSpec := { name := "taintErrors", fn := fun _ => fun
  | [d1, d2, d3] => { results := [.lit (.bool false)], args := [d1, d2, d3] }
  | _ => none }
def TaintErrorsWrongFalsely : Prop := taintErrorsRow.holds Tryz.pinned (OpenSpec.ofChange taintErrorsWrong)

/-- 'replevinlaw46.VersionsConsistent': WHATEVER THE INPUT: true; the input reads as it did. -/
def versionsConsistentSpec : ChangeSpec := { name := "versionsConsistent", fn := fun _ => fun
  | [d] => { results := [.lit (.bool true)], args := [d] }
  | _ => none }
def versionsConsistentRow : OpenClaim := { program := "ytkiojenkpbkjpaagreatdoor", sum := "a297c8f3a27606f085077a359de3fe7048e5ac1a53595c90da922161182fd252", func := "replevin/replevinlaw46.VersionsConsistent", spec := "versionsConsistent", inPlace := ["internal/bytealg.abigen_runtime_cmpstring"], unfollowed := true, recurses := true, named := ["strconv.ErrSyntax", "strconv.ErrRange", "internal/strconv.uint64pow10", "math/bits.deBruijn32tab", "math/bits.deBruijn64tab"], plainKeys := false, apart := false, laid := [("math/bits.deBruijn32tab", laid_math_bits_deBruijn32tab), ("math/bits.deBruijn64tab", laid_math_bits_deBruijn64tab), ("internal/strconv.uint64pow10", laid_internal_strconv_uint64pow10), ("strconv.ErrRange", laid_strconv_ErrRange), ("strconv.ErrSyntax", laid_strconv_ErrSyntax)] }
def VersionsConsistentSaid : Prop := versionsConsistentRow.holds Tryz.pinned (OpenSpec.ofChange versionsConsistentSpec)

/-- ITS FALSE NEIGHBOUR: 'it returns false'. Refute it at one input. -/
def versionsConsistentWrong : ChangeSpec := { name := "versionsConsistent", fn := fun _ => fun
  | [d] => { results := [.lit (.bool false)], args := [d] }
  | _ => none }
def VersionsConsistentWrongFalsely : Prop := versionsConsistentRow.holds Tryz.pinned (OpenSpec.ofChange versionsConsistentWrong)

/-- 'replevinlaw46.VersionsBuilds': WHATEVER THE INPUT: true; the input reads as it did. -/
def versionsBuildsSpec : ChangeSpec := { name := "versionsBuilds", fn := fun _ => fun
  | [d1, d2, d3] => { results := [.lit (.bool true)], args := [d1, d2, d3] }
  | _ => none }
def versionsBuildsRow : OpenClaim := { program := "ytkiojenkpbkjpaagreatdoor", sum := "a297c8f3a27606f085077a359de3fe7048e5ac1a53595c90da922161182fd252", func := "replevin/replevinlaw46.VersionsBuilds", spec := "versionsBuilds", inPlace := ["internal/bytealg.abigen_runtime_cmpstring"], unfollowed := true, recurses := true, named := ["strconv.ErrSyntax", "strconv.ErrRange", "internal/strconv.uint64pow10", "math/bits.deBruijn32tab", "math/bits.deBruijn64tab"], plainKeys := false, apart := false, laid := [("math/bits.deBruijn32tab", laid_math_bits_deBruijn32tab), ("math/bits.deBruijn64tab", laid_math_bits_deBruijn64tab), ("internal/strconv.uint64pow10", laid_internal_strconv_uint64pow10), ("strconv.ErrRange", laid_strconv_ErrRange), ("strconv.ErrSyntax", laid_strconv_ErrSyntax)] }
def VersionsBuildsSaid : Prop := versionsBuildsRow.holds Tryz.pinned (OpenSpec.ofChange versionsBuildsSpec)

/-- ITS FALSE NEIGHBOUR: 'it returns false'. Refute it at one input. -/
def versionsBuildsWrong : ChangeSpec := { name := "versionsBuilds", fn := fun _ => fun
  | [d1, d2, d3] => { results := [.lit (.bool false)], args := [d1, d2, d3] }
  | _ => none }
def VersionsBuildsWrongFalsely : Prop := versionsBuildsRow.holds Tryz.pinned (OpenSpec.ofChange versionsBuildsWrong)

/-- 'replevinlaw54.TaintOrigins': WHATEVER THE INPUT: true; the input reads as it did. -/
def taintOriginsSpec : ChangeSpec := { name := "taintOrigins", fn := fun _ => fun
  | [d1, d2, d3] => { results := [.lit (.bool true)], args := [d1, d2, d3] }
  | _ => none }
def taintOriginsRow : OpenClaim := { program := "ytkiojenkpbkjpaagreatdoor", sum := "a297c8f3a27606f085077a359de3fe7048e5ac1a53595c90da922161182fd252", func := "replevin/replevinlaw54.TaintOrigins", spec := "taintOrigins", inPlace := ["internal/bytealg.abigen_runtime_cmpstring"], unfollowed := true, recurses := true, named := ["strconv.ErrSyntax", "strconv.ErrRange", "internal/strconv.uint64pow10", "math/bits.deBruijn32tab", "math/bits.deBruijn64tab"], plainKeys := false, apart := false, laid := [("math/bits.deBruijn32tab", laid_math_bits_deBruijn32tab), ("math/bits.deBruijn64tab", laid_math_bits_deBruijn64tab), ("internal/strconv.uint64pow10", laid_internal_strconv_uint64pow10), ("strconv.ErrRange", laid_strconv_ErrRange), ("strconv.ErrSyntax", laid_strconv_ErrSyntax)] }
def TaintOriginsSaid : Prop := taintOriginsRow.holds Tryz.pinned (OpenSpec.ofChange taintOriginsSpec)

/-- ITS FALSE NEIGHBOUR: 'it returns false'. Refute it at one input. -/
def taintOriginsWrong : ChangeSpec := { name := "taintOrigins", fn := fun _ => fun
  | [d1, d2, d3] => { results := [.lit (.bool false)], args := [d1, d2, d3] }
  | _ => none }
def TaintOriginsWrongFalsely : Prop := taintOriginsRow.holds Tryz.pinned (OpenSpec.ofChange taintOriginsWrong)

/-- 'replevinlaw54.TaintStays': WHATEVER THE INPUT: true; the input reads as it did. -/
def taintStaysSpec : ChangeSpec := { name := "taintStays", fn := fun _ => fun
  | [d1, d2, d3] => { results := [.lit (.bool true)], args := [d1, d2, d3] }
  | _ => none }
def taintStaysRow : OpenClaim := { program := "ytkiojenkpbkjpaagreatdoor", sum := "a297c8f3a27606f085077a359de3fe7048e5ac1a53595c90da922161182fd252", func := "replevin/replevinlaw54.TaintStays", spec := "taintStays", inPlace := ["internal/bytealg.abigen_runtime_cmpstring"], unfollowed := true, recurses := true, named := ["strconv.ErrSyntax", "strconv.ErrRange", "internal/strconv.uint64pow10", "math/bits.deBruijn32tab", "math/bits.deBruijn64tab"], plainKeys := false, apart := false, laid := [("math/bits.deBruijn32tab", laid_math_bits_deBruijn32tab), ("math/bits.deBruijn64tab", laid_math_bits_deBruijn64tab), ("internal/strconv.uint64pow10", laid_internal_strconv_uint64pow10), ("strconv.ErrRange", laid_strconv_ErrRange), ("strconv.ErrSyntax", laid_strconv_ErrSyntax)] }
def TaintStaysSaid : Prop := taintStaysRow.holds Tryz.pinned (OpenSpec.ofChange taintStaysSpec)

/-- ITS FALSE NEIGHBOUR: 'it returns false'. Refute it at one input. -/
def taintStaysWrong : ChangeSpec := { name := "taintStays", fn := fun _ => fun
  | [d1, d2, d3] => { results := [.lit (.bool false)], args := [d1, d2, d3] }
  | _ => none }
def TaintStaysWrongFalsely : Prop := taintStaysRow.holds Tryz.pinned (OpenSpec.ofChange taintStaysWrong)

/-- 'replevinlaw54.TaintFiles': WHATEVER THE INPUT: true; the input reads as it did. -/
def taintFilesSpec : ChangeSpec := { name := "taintFiles", fn := fun _ => fun
  | [d1, d2, d3] => { results := [.lit (.bool true)], args := [d1, d2, d3] }
  | _ => none }
def taintFilesRow : OpenClaim := { program := "ytkiojenkpbkjpaagreatdoor", sum := "a297c8f3a27606f085077a359de3fe7048e5ac1a53595c90da922161182fd252", func := "replevin/replevinlaw54.TaintFiles", spec := "taintFiles", inPlace := ["internal/bytealg.abigen_runtime_cmpstring"], unfollowed := true, recurses := true, named := ["strconv.ErrSyntax", "strconv.ErrRange", "internal/strconv.uint64pow10", "math/bits.deBruijn32tab", "math/bits.deBruijn64tab"], plainKeys := false, apart := false, laid := [("math/bits.deBruijn32tab", laid_math_bits_deBruijn32tab), ("math/bits.deBruijn64tab", laid_math_bits_deBruijn64tab), ("internal/strconv.uint64pow10", laid_internal_strconv_uint64pow10), ("strconv.ErrRange", laid_strconv_ErrRange), ("strconv.ErrSyntax", laid_strconv_ErrSyntax)] }
def TaintFilesSaid : Prop := taintFilesRow.holds Tryz.pinned (OpenSpec.ofChange taintFilesSpec)

/-- ITS FALSE NEIGHBOUR: 'it returns false'. Refute it at one input. -/
def taintFilesWrong : ChangeSpec := { name := "taintFiles", fn := fun _ => fun
  | [d1, d2, d3] => { results := [.lit (.bool false)], args := [d1, d2, d3] }
  | _ => none }
def TaintFilesWrongFalsely : Prop := taintFilesRow.holds Tryz.pinned (OpenSpec.ofChange taintFilesWrong)

/-- 'replevinlaw54.TaintChains': WHATEVER THE INPUT: true; the input reads as it did. -/
def taintChainsSpec : ChangeSpec := { name := "taintChains", fn := fun _ => fun
  | [d1, d2, d3] => { results := [.lit (.bool true)], args := [d1, d2, d3] }
  | _ => none }
def taintChainsRow : OpenClaim := { program := "ytkiojenkpbkjpaagreatdoor", sum := "a297c8f3a27606f085077a359de3fe7048e5ac1a53595c90da922161182fd252", func := "replevin/replevinlaw54.TaintChains", spec := "taintChains", inPlace := ["internal/bytealg.abigen_runtime_cmpstring"], unfollowed := true, recurses := true, named := ["strconv.ErrSyntax", "strconv.ErrRange", "internal/strconv.uint64pow10", "math/bits.deBruijn32tab", "math/bits.deBruijn64tab"], plainKeys := false, apart := false, laid := [("math/bits.deBruijn32tab", laid_math_bits_deBruijn32tab), ("math/bits.deBruijn64tab", laid_math_bits_deBruijn64tab), ("internal/strconv.uint64pow10", laid_internal_strconv_uint64pow10), ("strconv.ErrRange", laid_strconv_ErrRange), ("strconv.ErrSyntax", laid_strconv_ErrSyntax)] }
def TaintChainsSaid : Prop := taintChainsRow.holds Tryz.pinned (OpenSpec.ofChange taintChainsSpec)

/-- ITS FALSE NEIGHBOUR: 'it returns false'. Refute it at one input. -/
def taintChainsWrong : ChangeSpec := { name := "taintChains", fn := fun _ => fun
  | [d1, d2, d3] => { results := [.lit (.bool false)], args := [d1, d2, d3] }
  | _ => none }
def TaintChainsWrongFalsely : Prop := taintChainsRow.holds Tryz.pinned (OpenSpec.ofChange taintChainsWrong)

/-- 'replevinlaw54.TaintSlices': WHATEVER THE INPUT: true; the input reads as it did. -/
def taintSlicesSpec : ChangeSpec := { name := "taintSlices", fn := fun _ => fun
  | [d1, d2, d3] => { results := [.lit (.bool true)], args := [d1, d2, d3] }
  | _ => none }
def taintSlicesRow : OpenClaim := { program := "ytkiojenkpbkjpaagreatdoor", sum := "a297c8f3a27606f085077a359de3fe7048e5ac1a53595c90da922161182fd252", func := "replevin/replevinlaw54.TaintSlices", spec := "taintSlices", inPlace := ["internal/bytealg.abigen_runtime_cmpstring"], unfollowed := true, recurses := true, named := ["strconv.ErrSyntax", "strconv.ErrRange", "internal/strconv.uint64pow10", "math/bits.deBruijn32tab", "math/bits.deBruijn64tab"], plainKeys := false, apart := false, laid := [("math/bits.deBruijn32tab", laid_math_bits_deBruijn32tab), ("math/bits.deBruijn64tab", laid_math_bits_deBruijn64tab), ("internal/strconv.uint64pow10", laid_internal_strconv_uint64pow10), ("strconv.ErrRange", laid_strconv_ErrRange), ("strconv.ErrSyntax", laid_strconv_ErrSyntax)] }
def TaintSlicesSaid : Prop := taintSlicesRow.holds Tryz.pinned (OpenSpec.ofChange taintSlicesSpec)

/-- ITS FALSE NEIGHBOUR: 'it returns false'. Refute it at one input. -/
def taintSlicesWrong : ChangeSpec := { name := "taintSlices", fn := fun _ => fun
  | [d1, d2, d3] => { results := [.lit (.bool false)], args := [d1, d2, d3] }
  | _ => none }
def TaintSlicesWrongFalsely : Prop := taintSlicesRow.holds Tryz.pinned (OpenSpec.ofChange taintSlicesWrong)

/- THE SECOND FORM. 'bulk': how many values and letters a reading holds, each counted each time it is reached (what is shared counts as often as it is met; a slice's spare places count too). A statement '..UptoSaid' is the law's where the arguments, and the package variables that the reading takes, are together of bulk at most 1048576: NARROWER than '..Said'. Prove '..Said' where nothing that the law and all that it calls make is longer than what came in: it says more and counts as full. Else prove '..UptoSaid'. A law counts once. -/
mutual
def uptoBulk {H : Type} : DataW H → Nat
  | .lit (.string bytes) => bytes.length + 1
  | .lit _ => 1
  | .nil => 1
  | .ptr d => uptoBulk d + 1
  | .slice elems spare => uptoBulkAll elems + uptoBulkAll spare + 1
  | .agg parts => uptoBulkAll parts + 1
  | .iface _ d => uptoBulk d + 1
  | .map entries => uptoBulkEntries entries + 1
  | .held _ => 1
def uptoBulkAll {H : Type} : List (DataW H) → Nat
  | [] => 0
  | d :: r => uptoBulk d + uptoBulkAll r
def uptoBulkEntries {H : Type} : List (Lit × DataW H) → Nat
  | [] => 0
  | x :: r => uptoBulkEntry x + uptoBulkEntries r
def uptoBulkEntry {H : Type} : Lit × DataW H → Nat
  | (.string bytes, d) => bytes.length + uptoBulk d + 1
  | (_, d) => uptoBulk d + 1
 end
def uptoSmall : (H : Type) → List (DataW H) → Bool := fun _ ds => decide (uptoBulkAll ds ≤ 1048576)
def OpenSpec.upto (s : _root_.Go.ChangeSpec) : _root_.Go.OpenSpec := { _root_.Go.OpenSpec.ofChange s with cond := some uptoSmall }

/-- 'replevinlaw24.ViewLong', WHERE WHAT IT READS IS OF BULK AT MOST 1048576: true; the input reads as it did. -/
def viewLongUptoRow : OpenClaim := { program := "ytkiojenkpbkjpaagreatdoor", sum := "a297c8f3a27606f085077a359de3fe7048e5ac1a53595c90da922161182fd252", func := "replevin/replevinlaw24.ViewLong", spec := "viewLong", inPlace := ["internal/bytealg.abigen_runtime_cmpstring"], unfollowed := true, recurses := true, named := ["strconv.ErrSyntax", "strconv.ErrRange", "internal/strconv.uint64pow10", "math/bits.deBruijn32tab", "math/bits.deBruijn64tab"], plainKeys := false, apart := false, laid := [("math/bits.deBruijn32tab", laid_math_bits_deBruijn32tab), ("math/bits.deBruijn64tab", laid_math_bits_deBruijn64tab), ("internal/strconv.uint64pow10", laid_internal_strconv_uint64pow10), ("strconv.ErrRange", laid_strconv_ErrRange), ("strconv.ErrSyntax", laid_strconv_ErrSyntax)], narrowed := true }
def ViewLongUptoSaid : Prop := viewLongUptoRow.holds Tryz.pinned (OpenSpec.upto viewLongSpec)

/-- 'replevinlaw24.ViewPlays', WHERE WHAT IT READS IS OF BULK AT MOST 1048576: true; the input reads as it did. -/
def viewPlaysUptoRow : OpenClaim := { program := "ytkiojenkpbkjpaagreatdoor", sum := "a297c8f3a27606f085077a359de3fe7048e5ac1a53595c90da922161182fd252", func := "replevin/replevinlaw24.ViewPlays", spec := "viewPlays", inPlace := ["internal/bytealg.abigen_runtime_cmpstring"], unfollowed := true, recurses := true, named := ["strconv.ErrSyntax", "strconv.ErrRange", "internal/strconv.uint64pow10", "math/bits.deBruijn32tab", "math/bits.deBruijn64tab"], plainKeys := false, apart := false, laid := [("math/bits.deBruijn32tab", laid_math_bits_deBruijn32tab), ("math/bits.deBruijn64tab", laid_math_bits_deBruijn64tab), ("internal/strconv.uint64pow10", laid_internal_strconv_uint64pow10), ("strconv.ErrRange", laid_strconv_ErrRange), ("strconv.ErrSyntax", laid_strconv_ErrSyntax)], narrowed := true }
def ViewPlaysUptoSaid : Prop := viewPlaysUptoRow.holds Tryz.pinned (OpenSpec.upto viewPlaysSpec)

/-- 'replevinlaw24.ViewAlone', WHERE WHAT IT READS IS OF BULK AT MOST 1048576: true; the input reads as it did. -/
def viewAloneUptoRow : OpenClaim := { program := "ytkiojenkpbkjpaagreatdoor", sum := "a297c8f3a27606f085077a359de3fe7048e5ac1a53595c90da922161182fd252", func := "replevin/replevinlaw24.ViewAlone", spec := "viewAlone", inPlace := ["internal/bytealg.abigen_runtime_cmpstring"], unfollowed := true, recurses := true, named := ["strconv.ErrSyntax", "strconv.ErrRange", "internal/strconv.uint64pow10", "math/bits.deBruijn32tab", "math/bits.deBruijn64tab"], plainKeys := false, apart := false, laid := [("math/bits.deBruijn32tab", laid_math_bits_deBruijn32tab), ("math/bits.deBruijn64tab", laid_math_bits_deBruijn64tab), ("internal/strconv.uint64pow10", laid_internal_strconv_uint64pow10), ("strconv.ErrRange", laid_strconv_ErrRange), ("strconv.ErrSyntax", laid_strconv_ErrSyntax)], narrowed := true }
def ViewAloneUptoSaid : Prop := viewAloneUptoRow.holds Tryz.pinned (OpenSpec.upto viewAloneSpec)

/-- 'replevinlaw24.ViewFrame', WHERE WHAT IT READS IS OF BULK AT MOST 1048576: true; the input reads as it did. -/
def viewFrameUptoRow : OpenClaim := { program := "ytkiojenkpbkjpaagreatdoor", sum := "a297c8f3a27606f085077a359de3fe7048e5ac1a53595c90da922161182fd252", func := "replevin/replevinlaw24.ViewFrame", spec := "viewFrame", inPlace := ["internal/bytealg.abigen_runtime_cmpstring"], unfollowed := true, recurses := true, named := ["strconv.ErrSyntax", "strconv.ErrRange", "internal/strconv.uint64pow10", "math/bits.deBruijn32tab", "math/bits.deBruijn64tab"], plainKeys := false, apart := false, laid := [("math/bits.deBruijn32tab", laid_math_bits_deBruijn32tab), ("math/bits.deBruijn64tab", laid_math_bits_deBruijn64tab), ("internal/strconv.uint64pow10", laid_internal_strconv_uint64pow10), ("strconv.ErrRange", laid_strconv_ErrRange), ("strconv.ErrSyntax", laid_strconv_ErrSyntax)], narrowed := true }
def ViewFrameUptoSaid : Prop := viewFrameUptoRow.holds Tryz.pinned (OpenSpec.upto viewFrameSpec)

/-- 'replevinlaw46.VersionsChanges', WHERE WHAT IT READS IS OF BULK AT MOST 1048576: true; the input reads as it did. -/
def versionsChangesUptoRow : OpenClaim := { program := "ytkiojenkpbkjpaagreatdoor", sum := "a297c8f3a27606f085077a359de3fe7048e5ac1a53595c90da922161182fd252", func := "replevin/replevinlaw46.VersionsChanges", spec := "versionsChanges", inPlace := ["internal/bytealg.abigen_runtime_cmpstring"], unfollowed := true, recurses := true, named := ["strconv.ErrSyntax", "strconv.ErrRange", "internal/strconv.uint64pow10", "math/bits.deBruijn32tab", "math/bits.deBruijn64tab"], plainKeys := false, apart := false, laid := [("math/bits.deBruijn32tab", laid_math_bits_deBruijn32tab), ("math/bits.deBruijn64tab", laid_math_bits_deBruijn64tab), ("internal/strconv.uint64pow10", laid_internal_strconv_uint64pow10), ("strconv.ErrRange", laid_strconv_ErrRange), ("strconv.ErrSyntax", laid_strconv_ErrSyntax)], narrowed := true }
def VersionsChangesUptoSaid : Prop := versionsChangesUptoRow.holds Tryz.pinned (OpenSpec.upto versionsChangesSpec)

/-- 'replevinlaw54.TaintAlone', WHERE WHAT IT READS IS OF BULK AT MOST 1048576: true; the input reads as it did. -/
def taintAloneUptoRow : OpenClaim := { program := "ytkiojenkpbkjpaagreatdoor", sum := "a297c8f3a27606f085077a359de3fe7048e5ac1a53595c90da922161182fd252", func := "replevin/replevinlaw54.TaintAlone", spec := "taintAlone", inPlace := ["internal/bytealg.abigen_runtime_cmpstring"], unfollowed := true, recurses := true, named := ["strconv.ErrSyntax", "strconv.ErrRange", "internal/strconv.uint64pow10", "math/bits.deBruijn32tab", "math/bits.deBruijn64tab"], plainKeys := false, apart := false, laid := [("math/bits.deBruijn32tab", laid_math_bits_deBruijn32tab), ("math/bits.deBruijn64tab", laid_math_bits_deBruijn64tab), ("internal/strconv.uint64pow10", laid_internal_strconv_uint64pow10), ("strconv.ErrRange", laid_strconv_ErrRange), ("strconv.ErrSyntax", laid_strconv_ErrSyntax)], narrowed := true }
def TaintAloneUptoSaid : Prop := taintAloneUptoRow.holds Tryz.pinned (OpenSpec.upto taintAloneSpec)

/-- 'replevinlaw46.VersionsOf', WHERE WHAT IT READS IS OF BULK AT MOST 1048576: true; the input reads as it did. -/
def versionsOfUptoRow : OpenClaim := { program := "ytkiojenkpbkjpaagreatdoor", sum := "a297c8f3a27606f085077a359de3fe7048e5ac1a53595c90da922161182fd252", func := "replevin/replevinlaw46.VersionsOf", spec := "versionsOf", inPlace := ["internal/bytealg.abigen_runtime_cmpstring"], unfollowed := true, recurses := true, named := ["strconv.ErrSyntax", "strconv.ErrRange", "internal/strconv.uint64pow10", "math/bits.deBruijn32tab", "math/bits.deBruijn64tab"], plainKeys := false, apart := false, laid := [("math/bits.deBruijn32tab", laid_math_bits_deBruijn32tab), ("math/bits.deBruijn64tab", laid_math_bits_deBruijn64tab), ("internal/strconv.uint64pow10", laid_internal_strconv_uint64pow10), ("strconv.ErrRange", laid_strconv_ErrRange), ("strconv.ErrSyntax", laid_strconv_ErrSyntax)], narrowed := true }
def VersionsOfUptoSaid : Prop := versionsOfUptoRow.holds Tryz.pinned (OpenSpec.upto versionsOfSpec)

/-- 'replevinlaw54.TaintErrors', WHERE WHAT IT READS IS OF BULK AT MOST 1048576: true; the input reads as it did. -/
def taintErrorsUptoRow : OpenClaim := { program := "ytkiojenkpbkjpaagreatdoor", sum := "a297c8f3a27606f085077a359de3fe7048e5ac1a53595c90da922161182fd252", func := "replevin/replevinlaw54.TaintErrors", spec := "taintErrors", inPlace := ["internal/bytealg.abigen_runtime_cmpstring", "internal/abi.NoEscape", "internal/bytealg.MakeNoZero"], unfollowed := true, recurses := true, named := ["strconv.ErrSyntax", "strconv.ErrRange", "internal/strconv.uint64pow10", "math/bits.deBruijn32tab", "math/bits.deBruijn64tab"], plainKeys := false, apart := false, laid := [("math/bits.deBruijn32tab", laid_math_bits_deBruijn32tab), ("math/bits.deBruijn64tab", laid_math_bits_deBruijn64tab), ("internal/strconv.uint64pow10", laid_internal_strconv_uint64pow10), ("strconv.ErrRange", laid_strconv_ErrRange), ("strconv.ErrSyntax", laid_strconv_ErrSyntax)], narrowed := true }
def TaintErrorsUptoSaid : Prop := taintErrorsUptoRow.holds Tryz.pinned (OpenSpec.upto taintErrorsSpec)

/-- 'replevinlaw46.VersionsConsistent', WHERE WHAT IT READS IS OF BULK AT MOST 1048576: true; the input reads as it did. -/
def versionsConsistentUptoRow : OpenClaim := { program := "ytkiojenkpbkjpaagreatdoor", sum := "a297c8f3a27606f085077a359de3fe7048e5ac1a53595c90da922161182fd252", func := "replevin/replevinlaw46.VersionsConsistent", spec := "versionsConsistent", inPlace := ["internal/bytealg.abigen_runtime_cmpstring"], unfollowed := true, recurses := true, named := ["strconv.ErrSyntax", "strconv.ErrRange", "internal/strconv.uint64pow10", "math/bits.deBruijn32tab", "math/bits.deBruijn64tab"], plainKeys := false, apart := false, laid := [("math/bits.deBruijn32tab", laid_math_bits_deBruijn32tab), ("math/bits.deBruijn64tab", laid_math_bits_deBruijn64tab), ("internal/strconv.uint64pow10", laid_internal_strconv_uint64pow10), ("strconv.ErrRange", laid_strconv_ErrRange), ("strconv.ErrSyntax", laid_strconv_ErrSyntax)], narrowed := true }
def VersionsConsistentUptoSaid : Prop := versionsConsistentUptoRow.holds Tryz.pinned (OpenSpec.upto versionsConsistentSpec)

/-- 'replevinlaw46.VersionsBuilds', WHERE WHAT IT READS IS OF BULK AT MOST 1048576: true; the input reads as it did. -/
def versionsBuildsUptoRow : OpenClaim := { program := "ytkiojenkpbkjpaagreatdoor", sum := "a297c8f3a27606f085077a359de3fe7048e5ac1a53595c90da922161182fd252", func := "replevin/replevinlaw46.VersionsBuilds", spec := "versionsBuilds", inPlace := ["internal/bytealg.abigen_runtime_cmpstring"], unfollowed := true, recurses := true, named := ["strconv.ErrSyntax", "strconv.ErrRange", "internal/strconv.uint64pow10", "math/bits.deBruijn32tab", "math/bits.deBruijn64tab"], plainKeys := false, apart := false, laid := [("math/bits.deBruijn32tab", laid_math_bits_deBruijn32tab), ("math/bits.deBruijn64tab", laid_math_bits_deBruijn64tab), ("internal/strconv.uint64pow10", laid_internal_strconv_uint64pow10), ("strconv.ErrRange", laid_strconv_ErrRange), ("strconv.ErrSyntax", laid_strconv_ErrSyntax)], narrowed := true }
def VersionsBuildsUptoSaid : Prop := versionsBuildsUptoRow.holds Tryz.pinned (OpenSpec.upto versionsBuildsSpec)

/-- 'replevinlaw54.TaintOrigins', WHERE WHAT IT READS IS OF BULK AT MOST 1048576: true; the input reads as it did. -/
def taintOriginsUptoRow : OpenClaim := { program := "ytkiojenkpbkjpaagreatdoor", sum := "a297c8f3a27606f085077a359de3fe7048e5ac1a53595c90da922161182fd252", func := "replevin/replevinlaw54.TaintOrigins", spec := "taintOrigins", inPlace := ["internal/bytealg.abigen_runtime_cmpstring"], unfollowed := true, recurses := true, named := ["strconv.ErrSyntax", "strconv.ErrRange", "internal/strconv.uint64pow10", "math/bits.deBruijn32tab", "math/bits.deBruijn64tab"], plainKeys := false, apart := false, laid := [("math/bits.deBruijn32tab", laid_math_bits_deBruijn32tab), ("math/bits.deBruijn64tab", laid_math_bits_deBruijn64tab), ("internal/strconv.uint64pow10", laid_internal_strconv_uint64pow10), ("strconv.ErrRange", laid_strconv_ErrRange), ("strconv.ErrSyntax", laid_strconv_ErrSyntax)], narrowed := true }
def TaintOriginsUptoSaid : Prop := taintOriginsUptoRow.holds Tryz.pinned (OpenSpec.upto taintOriginsSpec)

/-- 'replevinlaw54.TaintStays', WHERE WHAT IT READS IS OF BULK AT MOST 1048576: true; the input reads as it did. -/
def taintStaysUptoRow : OpenClaim := { program := "ytkiojenkpbkjpaagreatdoor", sum := "a297c8f3a27606f085077a359de3fe7048e5ac1a53595c90da922161182fd252", func := "replevin/replevinlaw54.TaintStays", spec := "taintStays", inPlace := ["internal/bytealg.abigen_runtime_cmpstring"], unfollowed := true, recurses := true, named := ["strconv.ErrSyntax", "strconv.ErrRange", "internal/strconv.uint64pow10", "math/bits.deBruijn32tab", "math/bits.deBruijn64tab"], plainKeys := false, apart := false, laid := [("math/bits.deBruijn32tab", laid_math_bits_deBruijn32tab), ("math/bits.deBruijn64tab", laid_math_bits_deBruijn64tab), ("internal/strconv.uint64pow10", laid_internal_strconv_uint64pow10), ("strconv.ErrRange", laid_strconv_ErrRange), ("strconv.ErrSyntax", laid_strconv_ErrSyntax)], narrowed := true }
def TaintStaysUptoSaid : Prop := taintStaysUptoRow.holds Tryz.pinned (OpenSpec.upto taintStaysSpec)

/-- 'replevinlaw54.TaintFiles', WHERE WHAT IT READS IS OF BULK AT MOST 1048576: true; the input reads as it did. -/
def taintFilesUptoRow : OpenClaim := { program := "ytkiojenkpbkjpaagreatdoor", sum := "a297c8f3a27606f085077a359de3fe7048e5ac1a53595c90da922161182fd252", func := "replevin/replevinlaw54.TaintFiles", spec := "taintFiles", inPlace := ["internal/bytealg.abigen_runtime_cmpstring"], unfollowed := true, recurses := true, named := ["strconv.ErrSyntax", "strconv.ErrRange", "internal/strconv.uint64pow10", "math/bits.deBruijn32tab", "math/bits.deBruijn64tab"], plainKeys := false, apart := false, laid := [("math/bits.deBruijn32tab", laid_math_bits_deBruijn32tab), ("math/bits.deBruijn64tab", laid_math_bits_deBruijn64tab), ("internal/strconv.uint64pow10", laid_internal_strconv_uint64pow10), ("strconv.ErrRange", laid_strconv_ErrRange), ("strconv.ErrSyntax", laid_strconv_ErrSyntax)], narrowed := true }
def TaintFilesUptoSaid : Prop := taintFilesUptoRow.holds Tryz.pinned (OpenSpec.upto taintFilesSpec)

/-- 'replevinlaw54.TaintChains', WHERE WHAT IT READS IS OF BULK AT MOST 1048576: true; the input reads as it did. -/
def taintChainsUptoRow : OpenClaim := { program := "ytkiojenkpbkjpaagreatdoor", sum := "a297c8f3a27606f085077a359de3fe7048e5ac1a53595c90da922161182fd252", func := "replevin/replevinlaw54.TaintChains", spec := "taintChains", inPlace := ["internal/bytealg.abigen_runtime_cmpstring"], unfollowed := true, recurses := true, named := ["strconv.ErrSyntax", "strconv.ErrRange", "internal/strconv.uint64pow10", "math/bits.deBruijn32tab", "math/bits.deBruijn64tab"], plainKeys := false, apart := false, laid := [("math/bits.deBruijn32tab", laid_math_bits_deBruijn32tab), ("math/bits.deBruijn64tab", laid_math_bits_deBruijn64tab), ("internal/strconv.uint64pow10", laid_internal_strconv_uint64pow10), ("strconv.ErrRange", laid_strconv_ErrRange), ("strconv.ErrSyntax", laid_strconv_ErrSyntax)], narrowed := true }
def TaintChainsUptoSaid : Prop := taintChainsUptoRow.holds Tryz.pinned (OpenSpec.upto taintChainsSpec)

/-- 'replevinlaw54.TaintSlices', WHERE WHAT IT READS IS OF BULK AT MOST 1048576: true; the input reads as it did. -/
def taintSlicesUptoRow : OpenClaim := { program := "ytkiojenkpbkjpaagreatdoor", sum := "a297c8f3a27606f085077a359de3fe7048e5ac1a53595c90da922161182fd252", func := "replevin/replevinlaw54.TaintSlices", spec := "taintSlices", inPlace := ["internal/bytealg.abigen_runtime_cmpstring"], unfollowed := true, recurses := true, named := ["strconv.ErrSyntax", "strconv.ErrRange", "internal/strconv.uint64pow10", "math/bits.deBruijn32tab", "math/bits.deBruijn64tab"], plainKeys := false, apart := false, laid := [("math/bits.deBruijn32tab", laid_math_bits_deBruijn32tab), ("math/bits.deBruijn64tab", laid_math_bits_deBruijn64tab), ("internal/strconv.uint64pow10", laid_internal_strconv_uint64pow10), ("strconv.ErrRange", laid_strconv_ErrRange), ("strconv.ErrSyntax", laid_strconv_ErrSyntax)], narrowed := true }
def TaintSlicesUptoSaid : Prop := taintSlicesUptoRow.holds Tryz.pinned (OpenSpec.upto taintSlicesSpec)

end Rows
end Go.Proofs.YtkiojenkpbkjpaaGreatDoor
