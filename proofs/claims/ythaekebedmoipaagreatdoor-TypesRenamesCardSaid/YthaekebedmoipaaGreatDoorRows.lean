/-
  NARROWER THAN 'FOR EVERY INPUT', by the rows' own cells (each row's printed sentence says how): TypesMatchesReference: loops, laid · TypesAccepts: laid · TypesRenames: laid · TypesScopes: laid · TypesOperators: laid · TypesPrefix: laid · TypesFunctions: laid · TypesRefuses: laid.
  DERIVED. THE GIVEN ROWS OF THIS SEAT. 8 by the template 'for every input the law returns true; each argument reads behind the call as it read before'; 0 by the template 'total and deterministic' (their statements: YthaekebedmoipaaGreatDoorTotals.lean).
  GIVEN WITH THE SEED: the statements are not yours to turn. If you find one false, say at which input.
  Laid BY PROGRAM, IN A SANDBOX (cutbox-rows.mjs): the forced cells as the released guide's own fill.sh prints them over the translation 9e3ccf77bc29c930… (all of the seat's roots in one cut). By AI agents, Wed Nov 11 2026. No macro, syntax, notation, axiom, sorry.
-/
import Derived.Test.YthaekebedmoipaaGreatDoorChecked
import GoSem.Claim
import GoSem.ClaimJoined
import GoSem.ClaimMapViews
import Derived.JoinedTies
import Derived.KernelRfl
namespace Go.Proofs.YthaekebedmoipaaGreatDoor
/- THE CELL 'sum', in the pinned program and in every row, IS THE sha256 OF THE DUMP (.gsa) THAT YthaekebedmoipaaGreatDoorProg.lean LOADS. Nothing in Lean hashes anything: it is a label: what it is worth is what the hold of that sum in a sandbox is worth. -/
noncomputable def Tryz.pinned : Pinned := { name := "ythaekebedmoipaagreatdoor", sum := "9e3ccf77bc29c930880a995eb3458b3f1a75d5042037fb38511061cb61132e9b", checked := Tryz.checked }
namespace Rows
def none {H : Type} : Left H := { results := [], args := [] }

/- WHAT THE LISTED PACKAGE-LEVEL VARIABLES READ AS WHEN THE CALL BEGINS. Each datum BY PROGRAM (the guide's laid-datum.mjs) off the statement by which the dump's own 'gosem.cut.vars' lays the variable. In a bare row this is a premise. The card (YthaekebedmoipaaGreatDoorCards.lean) ties it to the program's text. -/
def laid_math_bits_deBruijn32tab {H : Type} : DataW H := .agg [.lit (.int .u8 0), .lit (.int .u8 1), .lit (.int .u8 28), .lit (.int .u8 2), .lit (.int .u8 29), .lit (.int .u8 14), .lit (.int .u8 24), .lit (.int .u8 3), .lit (.int .u8 30), .lit (.int .u8 22), .lit (.int .u8 20), .lit (.int .u8 15), .lit (.int .u8 25), .lit (.int .u8 17), .lit (.int .u8 4), .lit (.int .u8 8), .lit (.int .u8 31), .lit (.int .u8 27), .lit (.int .u8 13), .lit (.int .u8 23), .lit (.int .u8 21), .lit (.int .u8 19), .lit (.int .u8 16), .lit (.int .u8 7), .lit (.int .u8 26), .lit (.int .u8 12), .lit (.int .u8 18), .lit (.int .u8 6), .lit (.int .u8 11), .lit (.int .u8 5), .lit (.int .u8 10), .lit (.int .u8 9)]
def laid_math_bits_deBruijn64tab {H : Type} : DataW H := .agg [.lit (.int .u8 0), .lit (.int .u8 1), .lit (.int .u8 56), .lit (.int .u8 2), .lit (.int .u8 57), .lit (.int .u8 49), .lit (.int .u8 28), .lit (.int .u8 3), .lit (.int .u8 61), .lit (.int .u8 58), .lit (.int .u8 42), .lit (.int .u8 50), .lit (.int .u8 38), .lit (.int .u8 29), .lit (.int .u8 17), .lit (.int .u8 4), .lit (.int .u8 62), .lit (.int .u8 47), .lit (.int .u8 59), .lit (.int .u8 36), .lit (.int .u8 45), .lit (.int .u8 43), .lit (.int .u8 51), .lit (.int .u8 22), .lit (.int .u8 53), .lit (.int .u8 39), .lit (.int .u8 33), .lit (.int .u8 30), .lit (.int .u8 24), .lit (.int .u8 18), .lit (.int .u8 12), .lit (.int .u8 5), .lit (.int .u8 63), .lit (.int .u8 55), .lit (.int .u8 48), .lit (.int .u8 27), .lit (.int .u8 60), .lit (.int .u8 41), .lit (.int .u8 37), .lit (.int .u8 16), .lit (.int .u8 46), .lit (.int .u8 35), .lit (.int .u8 44), .lit (.int .u8 21), .lit (.int .u8 52), .lit (.int .u8 32), .lit (.int .u8 23), .lit (.int .u8 11), .lit (.int .u8 54), .lit (.int .u8 26), .lit (.int .u8 40), .lit (.int .u8 15), .lit (.int .u8 34), .lit (.int .u8 20), .lit (.int .u8 31), .lit (.int .u8 10), .lit (.int .u8 25), .lit (.int .u8 14), .lit (.int .u8 19), .lit (.int .u8 9), .lit (.int .u8 13), .lit (.int .u8 8), .lit (.int .u8 7), .lit (.int .u8 6)]
def laid_internal_strconv_uint64pow10 {H : Type} : DataW H := .agg [.lit (.int .u64 1), .lit (.int .u64 10), .lit (.int .u64 100), .lit (.int .u64 1000), .lit (.int .u64 10000), .lit (.int .u64 100000), .lit (.int .u64 1000000), .lit (.int .u64 10000000), .lit (.int .u64 100000000), .lit (.int .u64 1000000000), .lit (.int .u64 10000000000), .lit (.int .u64 100000000000), .lit (.int .u64 1000000000000), .lit (.int .u64 10000000000000), .lit (.int .u64 100000000000000), .lit (.int .u64 1000000000000000), .lit (.int .u64 10000000000000000), .lit (.int .u64 100000000000000000), .lit (.int .u64 1000000000000000000), .lit (.int .u64 10000000000000000000)]

/-- 'warpwrightlaw03.TypesMatchesReference': WHATEVER THE INPUT: true; the input reads as it did. -/
def typesMatchesReferenceSpec : ChangeSpec := { name := "typesMatchesReference", fn := fun _ => fun
  | [d1, d2, d3] => { results := [.lit (.bool true)], args := [d1, d2, d3] }
  | _ => none }
def typesMatchesReferenceRow : OpenClaim := { program := "ythaekebedmoipaagreatdoor", sum := "9e3ccf77bc29c930880a995eb3458b3f1a75d5042037fb38511061cb61132e9b", func := "warpwright/warpwrightlaw03.TypesMatchesReference", spec := "typesMatchesReference", inPlace := ["internal/abi.NoEscape", "maps.clone"], unfollowed := true, recurses := true, named := ["internal/strconv.uint64pow10", "math/bits.deBruijn32tab", "math/bits.deBruijn64tab"], loops := true, apart := false, laid := [("math/bits.deBruijn32tab", laid_math_bits_deBruijn32tab), ("math/bits.deBruijn64tab", laid_math_bits_deBruijn64tab), ("internal/strconv.uint64pow10", laid_internal_strconv_uint64pow10)] }
def TypesMatchesReferenceSaid : Prop := typesMatchesReferenceRow.holds Tryz.pinned (OpenSpec.ofChange typesMatchesReferenceSpec)

/-- ITS FALSE NEIGHBOUR: 'it returns false'. Refute it at one input. -/
def typesMatchesReferenceWrong : ChangeSpec := { name := "typesMatchesReference", fn := fun _ => fun
  | [d1, d2, d3] => { results := [.lit (.bool false)], args := [d1, d2, d3] }
  | _ => none }
def TypesMatchesReferenceWrongFalsely : Prop := typesMatchesReferenceRow.holds Tryz.pinned (OpenSpec.ofChange typesMatchesReferenceWrong)

/-- 'warpwrightlaw03.TypesAccepts': WHATEVER THE INPUT: true; the input reads as it did. -/
def typesAcceptsSpec : ChangeSpec := { name := "typesAccepts", fn := fun _ => fun
  | [d] => { results := [.lit (.bool true)], args := [d] }
  | _ => none }
def typesAcceptsRow : OpenClaim := { program := "ythaekebedmoipaagreatdoor", sum := "9e3ccf77bc29c930880a995eb3458b3f1a75d5042037fb38511061cb61132e9b", func := "warpwright/warpwrightlaw03.TypesAccepts", spec := "typesAccepts", inPlace := ["internal/abi.NoEscape", "maps.clone"], unfollowed := true, recurses := true, named := ["internal/strconv.uint64pow10", "math/bits.deBruijn32tab", "math/bits.deBruijn64tab"], apart := false, laid := [("math/bits.deBruijn32tab", laid_math_bits_deBruijn32tab), ("math/bits.deBruijn64tab", laid_math_bits_deBruijn64tab), ("internal/strconv.uint64pow10", laid_internal_strconv_uint64pow10)] }
def TypesAcceptsSaid : Prop := typesAcceptsRow.holds Tryz.pinned (OpenSpec.ofChange typesAcceptsSpec)

/-- ITS FALSE NEIGHBOUR: 'it returns false'. Refute it at one input. -/
def typesAcceptsWrong : ChangeSpec := { name := "typesAccepts", fn := fun _ => fun
  | [d] => { results := [.lit (.bool false)], args := [d] }
  | _ => none }
def TypesAcceptsWrongFalsely : Prop := typesAcceptsRow.holds Tryz.pinned (OpenSpec.ofChange typesAcceptsWrong)

/-- 'warpwrightlaw03.TypesRenames': WHATEVER THE INPUT: true; the input reads as it did. -/
def typesRenamesSpec : ChangeSpec := { name := "typesRenames", fn := fun _ => fun
  | [d] => { results := [.lit (.bool true)], args := [d] }
  | _ => none }
def typesRenamesRow : OpenClaim := { program := "ythaekebedmoipaagreatdoor", sum := "9e3ccf77bc29c930880a995eb3458b3f1a75d5042037fb38511061cb61132e9b", func := "warpwright/warpwrightlaw03.TypesRenames", spec := "typesRenames", inPlace := ["internal/abi.NoEscape", "maps.clone"], unfollowed := true, recurses := true, named := ["internal/strconv.uint64pow10", "math/bits.deBruijn32tab", "math/bits.deBruijn64tab"], apart := false, laid := [("math/bits.deBruijn32tab", laid_math_bits_deBruijn32tab), ("math/bits.deBruijn64tab", laid_math_bits_deBruijn64tab), ("internal/strconv.uint64pow10", laid_internal_strconv_uint64pow10)] }
def TypesRenamesSaid : Prop := typesRenamesRow.holds Tryz.pinned (OpenSpec.ofChange typesRenamesSpec)

/-- ITS FALSE NEIGHBOUR: 'it returns false'. Refute it at one input. -/
def typesRenamesWrong : ChangeSpec := { name := "typesRenames", fn := fun _ => fun
  | [d] => { results := [.lit (.bool false)], args := [d] }
  | _ => none }
def TypesRenamesWrongFalsely : Prop := typesRenamesRow.holds Tryz.pinned (OpenSpec.ofChange typesRenamesWrong)

/-- 'warpwrightlaw03.TypesScopes': WHATEVER THE INPUT: true; the input reads as it did. -/
def typesScopesSpec : ChangeSpec := { name := "typesScopes", fn := fun _ => fun
  | [d1, d2, d3] => { results := [.lit (.bool true)], args := [d1, d2, d3] }
  | _ => none }
def typesScopesRow : OpenClaim := { program := "ythaekebedmoipaagreatdoor", sum := "9e3ccf77bc29c930880a995eb3458b3f1a75d5042037fb38511061cb61132e9b", func := "warpwright/warpwrightlaw03.TypesScopes", spec := "typesScopes", inPlace := ["internal/abi.NoEscape", "maps.clone"], unfollowed := true, recurses := true, named := ["internal/strconv.uint64pow10", "math/bits.deBruijn32tab", "math/bits.deBruijn64tab"], apart := false, laid := [("math/bits.deBruijn32tab", laid_math_bits_deBruijn32tab), ("math/bits.deBruijn64tab", laid_math_bits_deBruijn64tab), ("internal/strconv.uint64pow10", laid_internal_strconv_uint64pow10)] }
def TypesScopesSaid : Prop := typesScopesRow.holds Tryz.pinned (OpenSpec.ofChange typesScopesSpec)

/-- ITS FALSE NEIGHBOUR: 'it returns false'. Refute it at one input. -/
def typesScopesWrong : ChangeSpec := { name := "typesScopes", fn := fun _ => fun
  | [d1, d2, d3] => { results := [.lit (.bool false)], args := [d1, d2, d3] }
  | _ => none }
def TypesScopesWrongFalsely : Prop := typesScopesRow.holds Tryz.pinned (OpenSpec.ofChange typesScopesWrong)

/-- 'warpwrightlaw03.TypesOperators': WHATEVER THE INPUT: true; the input reads as it did. -/
def typesOperatorsSpec : ChangeSpec := { name := "typesOperators", fn := fun _ => fun
  | [d1, d2] => { results := [.lit (.bool true)], args := [d1, d2] }
  | _ => none }
def typesOperatorsRow : OpenClaim := { program := "ythaekebedmoipaagreatdoor", sum := "9e3ccf77bc29c930880a995eb3458b3f1a75d5042037fb38511061cb61132e9b", func := "warpwright/warpwrightlaw03.TypesOperators", spec := "typesOperators", inPlace := ["internal/abi.NoEscape", "maps.clone"], unfollowed := true, recurses := true, named := ["internal/strconv.uint64pow10", "math/bits.deBruijn32tab", "math/bits.deBruijn64tab"], apart := false, laid := [("math/bits.deBruijn32tab", laid_math_bits_deBruijn32tab), ("math/bits.deBruijn64tab", laid_math_bits_deBruijn64tab), ("internal/strconv.uint64pow10", laid_internal_strconv_uint64pow10)] }
def TypesOperatorsSaid : Prop := typesOperatorsRow.holds Tryz.pinned (OpenSpec.ofChange typesOperatorsSpec)

/-- ITS FALSE NEIGHBOUR: 'it returns false'. Refute it at one input. -/
def typesOperatorsWrong : ChangeSpec := { name := "typesOperators", fn := fun _ => fun
  | [d1, d2] => { results := [.lit (.bool false)], args := [d1, d2] }
  | _ => none }
def TypesOperatorsWrongFalsely : Prop := typesOperatorsRow.holds Tryz.pinned (OpenSpec.ofChange typesOperatorsWrong)

/-- 'warpwrightlaw03.TypesPrefix': WHATEVER THE INPUT: true; the input reads as it did. -/
def typesPrefixSpec : ChangeSpec := { name := "typesPrefix", fn := fun _ => fun
  | [d1, d2] => { results := [.lit (.bool true)], args := [d1, d2] }
  | _ => none }
def typesPrefixRow : OpenClaim := { program := "ythaekebedmoipaagreatdoor", sum := "9e3ccf77bc29c930880a995eb3458b3f1a75d5042037fb38511061cb61132e9b", func := "warpwright/warpwrightlaw03.TypesPrefix", spec := "typesPrefix", inPlace := ["internal/abi.NoEscape", "maps.clone"], unfollowed := true, recurses := true, named := ["internal/strconv.uint64pow10", "math/bits.deBruijn32tab", "math/bits.deBruijn64tab"], apart := false, laid := [("math/bits.deBruijn32tab", laid_math_bits_deBruijn32tab), ("math/bits.deBruijn64tab", laid_math_bits_deBruijn64tab), ("internal/strconv.uint64pow10", laid_internal_strconv_uint64pow10)] }
def TypesPrefixSaid : Prop := typesPrefixRow.holds Tryz.pinned (OpenSpec.ofChange typesPrefixSpec)

/-- ITS FALSE NEIGHBOUR: 'it returns false'. Refute it at one input. -/
def typesPrefixWrong : ChangeSpec := { name := "typesPrefix", fn := fun _ => fun
  | [d1, d2] => { results := [.lit (.bool false)], args := [d1, d2] }
  | _ => none }
def TypesPrefixWrongFalsely : Prop := typesPrefixRow.holds Tryz.pinned (OpenSpec.ofChange typesPrefixWrong)

/-- 'warpwrightlaw03.TypesFunctions': WHATEVER THE INPUT: true; the input reads as it did. -/
def typesFunctionsSpec : ChangeSpec := { name := "typesFunctions", fn := fun _ => fun
  | [d1, d2] => { results := [.lit (.bool true)], args := [d1, d2] }
  | _ => none }
def typesFunctionsRow : OpenClaim := { program := "ythaekebedmoipaagreatdoor", sum := "9e3ccf77bc29c930880a995eb3458b3f1a75d5042037fb38511061cb61132e9b", func := "warpwright/warpwrightlaw03.TypesFunctions", spec := "typesFunctions", inPlace := ["internal/abi.NoEscape", "maps.clone"], unfollowed := true, recurses := true, named := ["internal/strconv.uint64pow10", "math/bits.deBruijn32tab", "math/bits.deBruijn64tab"], apart := false, laid := [("math/bits.deBruijn32tab", laid_math_bits_deBruijn32tab), ("math/bits.deBruijn64tab", laid_math_bits_deBruijn64tab), ("internal/strconv.uint64pow10", laid_internal_strconv_uint64pow10)] }
def TypesFunctionsSaid : Prop := typesFunctionsRow.holds Tryz.pinned (OpenSpec.ofChange typesFunctionsSpec)

/-- ITS FALSE NEIGHBOUR: 'it returns false'. Refute it at one input. -/
def typesFunctionsWrong : ChangeSpec := { name := "typesFunctions", fn := fun _ => fun
  | [d1, d2] => { results := [.lit (.bool false)], args := [d1, d2] }
  | _ => none }
def TypesFunctionsWrongFalsely : Prop := typesFunctionsRow.holds Tryz.pinned (OpenSpec.ofChange typesFunctionsWrong)

/-- 'warpwrightlaw03.TypesRefuses': WHATEVER THE INPUT: true; the input reads as it did. -/
def typesRefusesSpec : ChangeSpec := { name := "typesRefuses", fn := fun _ => fun
  | [d1, d2, d3] => { results := [.lit (.bool true)], args := [d1, d2, d3] }
  | _ => none }
def typesRefusesRow : OpenClaim := { program := "ythaekebedmoipaagreatdoor", sum := "9e3ccf77bc29c930880a995eb3458b3f1a75d5042037fb38511061cb61132e9b", func := "warpwright/warpwrightlaw03.TypesRefuses", spec := "typesRefuses", inPlace := ["internal/abi.NoEscape", "maps.clone"], unfollowed := true, recurses := true, named := ["internal/strconv.uint64pow10", "math/bits.deBruijn32tab", "math/bits.deBruijn64tab"], apart := false, laid := [("math/bits.deBruijn32tab", laid_math_bits_deBruijn32tab), ("math/bits.deBruijn64tab", laid_math_bits_deBruijn64tab), ("internal/strconv.uint64pow10", laid_internal_strconv_uint64pow10)] }
def TypesRefusesSaid : Prop := typesRefusesRow.holds Tryz.pinned (OpenSpec.ofChange typesRefusesSpec)

/-- ITS FALSE NEIGHBOUR: 'it returns false'. Refute it at one input. -/
def typesRefusesWrong : ChangeSpec := { name := "typesRefuses", fn := fun _ => fun
  | [d1, d2, d3] => { results := [.lit (.bool false)], args := [d1, d2, d3] }
  | _ => none }
def TypesRefusesWrongFalsely : Prop := typesRefusesRow.holds Tryz.pinned (OpenSpec.ofChange typesRefusesWrong)

/- THE SECOND FORM. 'bulk': how many values and letters a reading holds, each counted each time it is reached (what is shared counts as often as it is met; a slice's spare places count too). A statement '..UptoSaid' is the law's where the arguments, and the package variables that the reading takes, are together of bulk at most 1048576: NARROWER than '..Said'. Prove '..Said' where nothing that the law and all that it calls make is longer than what came in: it says more and counts as full. Else prove '..UptoSaid'. A law counts once. -/
mutual
def uptoBulk {H : Type} : DataW H → Nat
  | .lit (.string bytes) => bytes.length + 1
  | .lit _ => 1
  | .nil => 1
  | .ptr d => uptoBulk d + 1
  | .slice elems spare => uptoBulkAll elems + uptoBulkAll spare + 1
  | .agg parts => uptoBulkAll parts + 1
  | .iface _ d => uptoBulk d + 1
  | .map entries => uptoBulkEntries entries + 1
  | .held _ => 1
def uptoBulkAll {H : Type} : List (DataW H) → Nat
  | [] => 0
  | d :: r => uptoBulk d + uptoBulkAll r
def uptoBulkEntries {H : Type} : List (Lit × DataW H) → Nat
  | [] => 0
  | x :: r => uptoBulkEntry x + uptoBulkEntries r
def uptoBulkEntry {H : Type} : Lit × DataW H → Nat
  | (.string bytes, d) => bytes.length + uptoBulk d + 1
  | (_, d) => uptoBulk d + 1
 end
def uptoSmall : (H : Type) → List (DataW H) → Bool := fun _ ds => decide (uptoBulkAll ds ≤ 1048576)
def OpenSpec.upto (s : _root_.Go.ChangeSpec) : _root_.Go.OpenSpec := { _root_.Go.OpenSpec.ofChange s with cond := some uptoSmall }

/-- 'warpwrightlaw03.TypesMatchesReference', WHERE WHAT IT READS IS OF BULK AT MOST 1048576: true; the input reads as it did. -/
def typesMatchesReferenceUptoRow : OpenClaim := { program := "ythaekebedmoipaagreatdoor", sum := "9e3ccf77bc29c930880a995eb3458b3f1a75d5042037fb38511061cb61132e9b", func := "warpwright/warpwrightlaw03.TypesMatchesReference", spec := "typesMatchesReference", inPlace := ["internal/abi.NoEscape", "maps.clone"], unfollowed := true, recurses := true, named := ["internal/strconv.uint64pow10", "math/bits.deBruijn32tab", "math/bits.deBruijn64tab"], loops := true, apart := false, laid := [("math/bits.deBruijn32tab", laid_math_bits_deBruijn32tab), ("math/bits.deBruijn64tab", laid_math_bits_deBruijn64tab), ("internal/strconv.uint64pow10", laid_internal_strconv_uint64pow10)], narrowed := true }
def TypesMatchesReferenceUptoSaid : Prop := typesMatchesReferenceUptoRow.holds Tryz.pinned (OpenSpec.upto typesMatchesReferenceSpec)

/-- 'warpwrightlaw03.TypesAccepts', WHERE WHAT IT READS IS OF BULK AT MOST 1048576: true; the input reads as it did. -/
def typesAcceptsUptoRow : OpenClaim := { program := "ythaekebedmoipaagreatdoor", sum := "9e3ccf77bc29c930880a995eb3458b3f1a75d5042037fb38511061cb61132e9b", func := "warpwright/warpwrightlaw03.TypesAccepts", spec := "typesAccepts", inPlace := ["internal/abi.NoEscape", "maps.clone"], unfollowed := true, recurses := true, named := ["internal/strconv.uint64pow10", "math/bits.deBruijn32tab", "math/bits.deBruijn64tab"], apart := false, laid := [("math/bits.deBruijn32tab", laid_math_bits_deBruijn32tab), ("math/bits.deBruijn64tab", laid_math_bits_deBruijn64tab), ("internal/strconv.uint64pow10", laid_internal_strconv_uint64pow10)], narrowed := true }
def TypesAcceptsUptoSaid : Prop := typesAcceptsUptoRow.holds Tryz.pinned (OpenSpec.upto typesAcceptsSpec)

/-- 'warpwrightlaw03.TypesRenames', WHERE WHAT IT READS IS OF BULK AT MOST 1048576: true; the input reads as it did. -/
def typesRenamesUptoRow : OpenClaim := { program := "ythaekebedmoipaagreatdoor", sum := "9e3ccf77bc29c930880a995eb3458b3f1a75d5042037fb38511061cb61132e9b", func := "warpwright/warpwrightlaw03.TypesRenames", spec := "typesRenames", inPlace := ["internal/abi.NoEscape", "maps.clone"], unfollowed := true, recurses := true, named := ["internal/strconv.uint64pow10", "math/bits.deBruijn32tab", "math/bits.deBruijn64tab"], apart := false, laid := [("math/bits.deBruijn32tab", laid_math_bits_deBruijn32tab), ("math/bits.deBruijn64tab", laid_math_bits_deBruijn64tab), ("internal/strconv.uint64pow10", laid_internal_strconv_uint64pow10)], narrowed := true }
def TypesRenamesUptoSaid : Prop := typesRenamesUptoRow.holds Tryz.pinned (OpenSpec.upto typesRenamesSpec)

/-- 'warpwrightlaw03.TypesScopes', WHERE WHAT IT READS IS OF BULK AT MOST 1048576: true; the input reads as it did. -/
def typesScopesUptoRow : OpenClaim := { program := "ythaekebedmoipaagreatdoor", sum := "9e3ccf77bc29c930880a995eb3458b3f1a75d5042037fb38511061cb61132e9b", func := "warpwright/warpwrightlaw03.TypesScopes", spec := "typesScopes", inPlace := ["internal/abi.NoEscape", "maps.clone"], unfollowed := true, recurses := true, named := ["internal/strconv.uint64pow10", "math/bits.deBruijn32tab", "math/bits.deBruijn64tab"], apart := false, laid := [("math/bits.deBruijn32tab", laid_math_bits_deBruijn32tab), ("math/bits.deBruijn64tab", laid_math_bits_deBruijn64tab), ("internal/strconv.uint64pow10", laid_internal_strconv_uint64pow10)], narrowed := true }
def TypesScopesUptoSaid : Prop := typesScopesUptoRow.holds Tryz.pinned (OpenSpec.upto typesScopesSpec)

/-- 'warpwrightlaw03.TypesOperators', WHERE WHAT IT READS IS OF BULK AT MOST 1048576: true; the input reads as it did. -/
def typesOperatorsUptoRow : OpenClaim := { program := "ythaekebedmoipaagreatdoor", sum := "9e3ccf77bc29c930880a995eb3458b3f1a75d5042037fb38511061cb61132e9b", func := "warpwright/warpwrightlaw03.TypesOperators", spec := "typesOperators", inPlace := ["internal/abi.NoEscape", "maps.clone"], unfollowed := true, recurses := true, named := ["internal/strconv.uint64pow10", "math/bits.deBruijn32tab", "math/bits.deBruijn64tab"], apart := false, laid := [("math/bits.deBruijn32tab", laid_math_bits_deBruijn32tab), ("math/bits.deBruijn64tab", laid_math_bits_deBruijn64tab), ("internal/strconv.uint64pow10", laid_internal_strconv_uint64pow10)], narrowed := true }
def TypesOperatorsUptoSaid : Prop := typesOperatorsUptoRow.holds Tryz.pinned (OpenSpec.upto typesOperatorsSpec)

/-- 'warpwrightlaw03.TypesPrefix', WHERE WHAT IT READS IS OF BULK AT MOST 1048576: true; the input reads as it did. -/
def typesPrefixUptoRow : OpenClaim := { program := "ythaekebedmoipaagreatdoor", sum := "9e3ccf77bc29c930880a995eb3458b3f1a75d5042037fb38511061cb61132e9b", func := "warpwright/warpwrightlaw03.TypesPrefix", spec := "typesPrefix", inPlace := ["internal/abi.NoEscape", "maps.clone"], unfollowed := true, recurses := true, named := ["internal/strconv.uint64pow10", "math/bits.deBruijn32tab", "math/bits.deBruijn64tab"], apart := false, laid := [("math/bits.deBruijn32tab", laid_math_bits_deBruijn32tab), ("math/bits.deBruijn64tab", laid_math_bits_deBruijn64tab), ("internal/strconv.uint64pow10", laid_internal_strconv_uint64pow10)], narrowed := true }
def TypesPrefixUptoSaid : Prop := typesPrefixUptoRow.holds Tryz.pinned (OpenSpec.upto typesPrefixSpec)

/-- 'warpwrightlaw03.TypesFunctions', WHERE WHAT IT READS IS OF BULK AT MOST 1048576: true; the input reads as it did. -/
def typesFunctionsUptoRow : OpenClaim := { program := "ythaekebedmoipaagreatdoor", sum := "9e3ccf77bc29c930880a995eb3458b3f1a75d5042037fb38511061cb61132e9b", func := "warpwright/warpwrightlaw03.TypesFunctions", spec := "typesFunctions", inPlace := ["internal/abi.NoEscape", "maps.clone"], unfollowed := true, recurses := true, named := ["internal/strconv.uint64pow10", "math/bits.deBruijn32tab", "math/bits.deBruijn64tab"], apart := false, laid := [("math/bits.deBruijn32tab", laid_math_bits_deBruijn32tab), ("math/bits.deBruijn64tab", laid_math_bits_deBruijn64tab), ("internal/strconv.uint64pow10", laid_internal_strconv_uint64pow10)], narrowed := true }
def TypesFunctionsUptoSaid : Prop := typesFunctionsUptoRow.holds Tryz.pinned (OpenSpec.upto typesFunctionsSpec)

/-- 'warpwrightlaw03.TypesRefuses', WHERE WHAT IT READS IS OF BULK AT MOST 1048576: true; the input reads as it did. -/
def typesRefusesUptoRow : OpenClaim := { program := "ythaekebedmoipaagreatdoor", sum := "9e3ccf77bc29c930880a995eb3458b3f1a75d5042037fb38511061cb61132e9b", func := "warpwright/warpwrightlaw03.TypesRefuses", spec := "typesRefuses", inPlace := ["internal/abi.NoEscape", "maps.clone"], unfollowed := true, recurses := true, named := ["internal/strconv.uint64pow10", "math/bits.deBruijn32tab", "math/bits.deBruijn64tab"], apart := false, laid := [("math/bits.deBruijn32tab", laid_math_bits_deBruijn32tab), ("math/bits.deBruijn64tab", laid_math_bits_deBruijn64tab), ("internal/strconv.uint64pow10", laid_internal_strconv_uint64pow10)], narrowed := true }
def TypesRefusesUptoSaid : Prop := typesRefusesUptoRow.holds Tryz.pinned (OpenSpec.upto typesRefusesSpec)

end Rows
end Go.Proofs.YthaekebedmoipaaGreatDoor
