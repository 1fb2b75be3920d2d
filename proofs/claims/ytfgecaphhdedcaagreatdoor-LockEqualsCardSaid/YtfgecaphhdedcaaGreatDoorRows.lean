/-
  NARROWER THAN 'FOR EVERY INPUT', by the rows' own cells (each row's printed sentence says how): LockDecodes: laid · LockExcludes: laid · LockShares: laid · LockChecks: laid · LockEquals: laid · LockErrors: laid.
  DERIVED. THE GIVEN ROWS OF THIS SEAT. 6 by the template 'for every input the law returns true; each argument reads behind the call as it read before'; 0 by the template 'total and deterministic' (their statements: YtfgecaphhdedcaaGreatDoorTotals.lean).
  GIVEN WITH THE SEED: the statements are not yours to turn. If you find one false, say at which input.
  Laid BY PROGRAM, IN A SANDBOX (cutbox-rows.mjs): the forced cells as the released guide's own fill.sh prints them over the translation e91b95a934d9be7a… (all of the seat's roots in one cut). By AI agents, Wed Nov 11 2026. No macro, syntax, notation, axiom, sorry.
-/
import Derived.Test.YtfgecaphhdedcaaGreatDoorChecked
import GoSem.Claim
import GoSem.ClaimJoined
import GoSem.ClaimMapViews
import Derived.JoinedTies
import Derived.KernelRfl
namespace Go.Proofs.YtfgecaphhdedcaaGreatDoor
/- THE CELL 'sum', in the pinned program and in every row, IS THE sha256 OF THE DUMP (.gsa) THAT YtfgecaphhdedcaaGreatDoorProg.lean LOADS. Nothing in Lean hashes anything: it is a label: what it is worth is what the hold of that sum in a sandbox is worth. -/
noncomputable def Tryz.pinned : Pinned := { name := "ytfgecaphhdedcaagreatdoor", sum := "e91b95a934d9be7a0a87504462597fc2ec5ac0b7ab2d873bcac98b164ec3526e", checked := Tryz.checked }
namespace Rows
def none {H : Type} : Left H := { results := [], args := [] }

/- WHAT THE LISTED PACKAGE-LEVEL VARIABLES READ AS WHEN THE CALL BEGINS. Each datum BY PROGRAM (the guide's laid-datum.mjs) off the statement by which the dump's own 'gosem.cut.vars' lays the variable. In a bare row this is a premise. The card (YtfgecaphhdedcaaGreatDoorCards.lean) ties it to the program's text. -/
def laid_math_bits_deBruijn32tab {H : Type} : DataW H := .agg [.lit (.int .u8 0), .lit (.int .u8 1), .lit (.int .u8 28), .lit (.int .u8 2), .lit (.int .u8 29), .lit (.int .u8 14), .lit (.int .u8 24), .lit (.int .u8 3), .lit (.int .u8 30), .lit (.int .u8 22), .lit (.int .u8 20), .lit (.int .u8 15), .lit (.int .u8 25), .lit (.int .u8 17), .lit (.int .u8 4), .lit (.int .u8 8), .lit (.int .u8 31), .lit (.int .u8 27), .lit (.int .u8 13), .lit (.int .u8 23), .lit (.int .u8 21), .lit (.int .u8 19), .lit (.int .u8 16), .lit (.int .u8 7), .lit (.int .u8 26), .lit (.int .u8 12), .lit (.int .u8 18), .lit (.int .u8 6), .lit (.int .u8 11), .lit (.int .u8 5), .lit (.int .u8 10), .lit (.int .u8 9)]
def laid_math_bits_deBruijn64tab {H : Type} : DataW H := .agg [.lit (.int .u8 0), .lit (.int .u8 1), .lit (.int .u8 56), .lit (.int .u8 2), .lit (.int .u8 57), .lit (.int .u8 49), .lit (.int .u8 28), .lit (.int .u8 3), .lit (.int .u8 61), .lit (.int .u8 58), .lit (.int .u8 42), .lit (.int .u8 50), .lit (.int .u8 38), .lit (.int .u8 29), .lit (.int .u8 17), .lit (.int .u8 4), .lit (.int .u8 62), .lit (.int .u8 47), .lit (.int .u8 59), .lit (.int .u8 36), .lit (.int .u8 45), .lit (.int .u8 43), .lit (.int .u8 51), .lit (.int .u8 22), .lit (.int .u8 53), .lit (.int .u8 39), .lit (.int .u8 33), .lit (.int .u8 30), .lit (.int .u8 24), .lit (.int .u8 18), .lit (.int .u8 12), .lit (.int .u8 5), .lit (.int .u8 63), .lit (.int .u8 55), .lit (.int .u8 48), .lit (.int .u8 27), .lit (.int .u8 60), .lit (.int .u8 41), .lit (.int .u8 37), .lit (.int .u8 16), .lit (.int .u8 46), .lit (.int .u8 35), .lit (.int .u8 44), .lit (.int .u8 21), .lit (.int .u8 52), .lit (.int .u8 32), .lit (.int .u8 23), .lit (.int .u8 11), .lit (.int .u8 54), .lit (.int .u8 26), .lit (.int .u8 40), .lit (.int .u8 15), .lit (.int .u8 34), .lit (.int .u8 20), .lit (.int .u8 31), .lit (.int .u8 10), .lit (.int .u8 25), .lit (.int .u8 14), .lit (.int .u8 19), .lit (.int .u8 9), .lit (.int .u8 13), .lit (.int .u8 8), .lit (.int .u8 7), .lit (.int .u8 6)]
def laid_internal_strconv_uint64pow10 {H : Type} : DataW H := .agg [.lit (.int .u64 1), .lit (.int .u64 10), .lit (.int .u64 100), .lit (.int .u64 1000), .lit (.int .u64 10000), .lit (.int .u64 100000), .lit (.int .u64 1000000), .lit (.int .u64 10000000), .lit (.int .u64 100000000), .lit (.int .u64 1000000000), .lit (.int .u64 10000000000), .lit (.int .u64 100000000000), .lit (.int .u64 1000000000000), .lit (.int .u64 10000000000000), .lit (.int .u64 100000000000000), .lit (.int .u64 1000000000000000), .lit (.int .u64 10000000000000000), .lit (.int .u64 100000000000000000), .lit (.int .u64 1000000000000000000), .lit (.int .u64 10000000000000000000)]
def laid_strconv_ErrRange {H : Type} : DataW H := .iface "*errors.errorString" (.ptr (.agg [.lit (.string [118, 97, 108, 117, 101, 32, 111, 117, 116, 32, 111, 102, 32, 114, 97, 110, 103, 101])]))
def laid_strconv_ErrSyntax {H : Type} : DataW H := .iface "*errors.errorString" (.ptr (.agg [.lit (.string [105, 110, 118, 97, 108, 105, 100, 32, 115, 121, 110, 116, 97, 120])]))

/-- 'replevinlaw34.LockDecodes': WHATEVER THE INPUT: true; the input reads as it did. -/
def lockDecodesSpec : ChangeSpec := { name := "lockDecodes", fn := fun _ => fun
  | [d] => { results := [.lit (.bool true)], args := [d] }
  | _ => none }
def lockDecodesRow : OpenClaim := { program := "ytfgecaphhdedcaagreatdoor", sum := "e91b95a934d9be7a0a87504462597fc2ec5ac0b7ab2d873bcac98b164ec3526e", func := "replevin/replevinlaw34.LockDecodes", spec := "lockDecodes", inPlace := ["internal/bytealg.abigen_runtime_cmpstring", "slices.overlaps[replevin/lineage.Name]"], unfollowed := true, recurses := true, named := ["strconv.ErrSyntax", "strconv.ErrRange", "internal/strconv.uint64pow10", "math/bits.deBruijn32tab", "math/bits.deBruijn64tab"], plainKeys := false, apart := false, laid := [("math/bits.deBruijn32tab", laid_math_bits_deBruijn32tab), ("math/bits.deBruijn64tab", laid_math_bits_deBruijn64tab), ("internal/strconv.uint64pow10", laid_internal_strconv_uint64pow10), ("strconv.ErrRange", laid_strconv_ErrRange), ("strconv.ErrSyntax", laid_strconv_ErrSyntax)] }
def LockDecodesSaid : Prop := lockDecodesRow.holds Tryz.pinned (OpenSpec.ofChange lockDecodesSpec)

/-- ITS FALSE NEIGHBOUR: 'it returns false'. Refute it at one input. -/
def lockDecodesWrong : ChangeSpec := { name := "lockDecodes", fn := fun _ => fun
  | [d] => { results := [.lit (.bool false)], args := [d] }
  | _ => none }
def LockDecodesWrongFalsely : Prop := lockDecodesRow.holds Tryz.pinned (OpenSpec.ofChange lockDecodesWrong)

/-- 'replevinlaw34.LockExcludes': WHATEVER THE INPUT: true; the input reads as it did. -/
def lockExcludesSpec : ChangeSpec := { name := "lockExcludes", fn := fun _ => fun
  | [d] => { results := [.lit (.bool true)], args := [d] }
  | _ => none }
def lockExcludesRow : OpenClaim := { program := "ytfgecaphhdedcaagreatdoor", sum := "e91b95a934d9be7a0a87504462597fc2ec5ac0b7ab2d873bcac98b164ec3526e", func := "replevin/replevinlaw34.LockExcludes", spec := "lockExcludes", inPlace := ["internal/bytealg.abigen_runtime_cmpstring", "slices.overlaps[replevin/lineage.Name]"], unfollowed := true, recurses := true, named := ["strconv.ErrSyntax", "strconv.ErrRange", "internal/strconv.uint64pow10", "math/bits.deBruijn32tab", "math/bits.deBruijn64tab"], plainKeys := false, apart := false, laid := [("math/bits.deBruijn32tab", laid_math_bits_deBruijn32tab), ("math/bits.deBruijn64tab", laid_math_bits_deBruijn64tab), ("internal/strconv.uint64pow10", laid_internal_strconv_uint64pow10), ("strconv.ErrRange", laid_strconv_ErrRange), ("strconv.ErrSyntax", laid_strconv_ErrSyntax)] }
def LockExcludesSaid : Prop := lockExcludesRow.holds Tryz.pinned (OpenSpec.ofChange lockExcludesSpec)

/-- ITS FALSE NEIGHBOUR: 'it returns false'. Refute it at one input. -/
def lockExcludesWrong : ChangeSpec := { name := "lockExcludes", fn := fun _ => fun
  | [d] => { results := [.lit (.bool false)], args := [d] }
  | _ => none }
def LockExcludesWrongFalsely : Prop := lockExcludesRow.holds Tryz.pinned (OpenSpec.ofChange lockExcludesWrong)

/-- 'replevinlaw34.LockShares': WHATEVER THE INPUT: true; the input reads as it did. -/
def lockSharesSpec : ChangeSpec := { name := "lockShares", fn := fun _ => fun
  | [d1, d2] => { results := [.lit (.bool true)], args := [d1, d2] }
  | _ => none }
def lockSharesRow : OpenClaim := { program := "ytfgecaphhdedcaagreatdoor", sum := "e91b95a934d9be7a0a87504462597fc2ec5ac0b7ab2d873bcac98b164ec3526e", func := "replevin/replevinlaw34.LockShares", spec := "lockShares", inPlace := ["internal/bytealg.abigen_runtime_cmpstring", "slices.overlaps[replevin/lineage.Name]"], unfollowed := true, recurses := true, named := ["strconv.ErrSyntax", "strconv.ErrRange", "internal/strconv.uint64pow10", "math/bits.deBruijn32tab", "math/bits.deBruijn64tab"], plainKeys := false, apart := false, laid := [("math/bits.deBruijn32tab", laid_math_bits_deBruijn32tab), ("math/bits.deBruijn64tab", laid_math_bits_deBruijn64tab), ("internal/strconv.uint64pow10", laid_internal_strconv_uint64pow10), ("strconv.ErrRange", laid_strconv_ErrRange), ("strconv.ErrSyntax", laid_strconv_ErrSyntax)] }
def LockSharesSaid : Prop := lockSharesRow.holds Tryz.pinned (OpenSpec.ofChange lockSharesSpec)

/-- ITS FALSE NEIGHBOUR: 'it returns false'. Refute it at one input. -/
def lockSharesWrong : ChangeSpec := { name := "lockShares", fn := fun _ => fun
  | [d1, d2] => { results := [.lit (.bool false)], args := [d1, d2] }
  | _ => none }
def LockSharesWrongFalsely : Prop := lockSharesRow.holds Tryz.pinned (OpenSpec.ofChange lockSharesWrong)

/-- 'replevinlaw34.LockChecks': WHATEVER THE INPUT: true; the input reads as it did. -/
def lockChecksSpec : ChangeSpec := { name := "lockChecks", fn := fun _ => fun
  | [d] => { results := [.lit (.bool true)], args := [d] }
  | _ => none }
def lockChecksRow : OpenClaim := { program := "ytfgecaphhdedcaagreatdoor", sum := "e91b95a934d9be7a0a87504462597fc2ec5ac0b7ab2d873bcac98b164ec3526e", func := "replevin/replevinlaw34.LockChecks", spec := "lockChecks", inPlace := ["internal/bytealg.abigen_runtime_cmpstring", "slices.overlaps[replevin/lineage.Name]"], unfollowed := true, recurses := true, named := ["strconv.ErrSyntax", "strconv.ErrRange", "internal/strconv.uint64pow10", "math/bits.deBruijn32tab", "math/bits.deBruijn64tab"], plainKeys := false, apart := false, laid := [("math/bits.deBruijn32tab", laid_math_bits_deBruijn32tab), ("math/bits.deBruijn64tab", laid_math_bits_deBruijn64tab), ("internal/strconv.uint64pow10", laid_internal_strconv_uint64pow10), ("strconv.ErrRange", laid_strconv_ErrRange), ("strconv.ErrSyntax", laid_strconv_ErrSyntax)] }
def LockChecksSaid : Prop := lockChecksRow.holds Tryz.pinned (OpenSpec.ofChange lockChecksSpec)

/-- ITS FALSE NEIGHBOUR: 'it returns false'. Refute it at one input. -/
def lockChecksWrong : ChangeSpec := { name := "lockChecks", fn := fun _ => fun
  | [d] => { results := [.lit (.bool false)], args := [d] }
  | _ => none }
def LockChecksWrongFalsely : Prop := lockChecksRow.holds Tryz.pinned (OpenSpec.ofChange lockChecksWrong)

/-- 'replevinlaw34.LockEquals': WHATEVER THE INPUT: true; the input reads as it did. -/
def lockEqualsSpec : ChangeSpec := { name := "lockEquals", fn := fun _ => fun
  | [d1, d2, d3] => { results := [.lit (.bool true)], args := [d1, d2, d3] }
  | _ => none }
def lockEqualsRow : OpenClaim := { program := "ytfgecaphhdedcaagreatdoor", sum := "e91b95a934d9be7a0a87504462597fc2ec5ac0b7ab2d873bcac98b164ec3526e", func := "replevin/replevinlaw34.LockEquals", spec := "lockEquals", inPlace := ["internal/bytealg.abigen_runtime_cmpstring", "slices.overlaps[replevin/lineage.Name]"], unfollowed := true, recurses := true, named := ["strconv.ErrSyntax", "strconv.ErrRange", "internal/strconv.uint64pow10", "math/bits.deBruijn32tab", "math/bits.deBruijn64tab"], plainKeys := false, apart := false, laid := [("math/bits.deBruijn32tab", laid_math_bits_deBruijn32tab), ("math/bits.deBruijn64tab", laid_math_bits_deBruijn64tab), ("internal/strconv.uint64pow10", laid_internal_strconv_uint64pow10), ("strconv.ErrRange", laid_strconv_ErrRange), ("strconv.ErrSyntax", laid_strconv_ErrSyntax)] }
def LockEqualsSaid : Prop := lockEqualsRow.holds Tryz.pinned (OpenSpec.ofChange lockEqualsSpec)

/-- ITS FALSE NEIGHBOUR: 'it returns false'. Refute it at one input. -/
def lockEqualsWrong : ChangeSpec := { name := "lockEquals", fn := fun _ => fun
  | [d1, d2, d3] => { results := [.lit (.bool false)], args := [d1, d2, d3] }
  | _ => none }
def LockEqualsWrongFalsely : Prop := lockEqualsRow.holds Tryz.pinned (OpenSpec.ofChange lockEqualsWrong)

/-- 'replevinlaw34.LockErrors': WHATEVER THE INPUT: true; the input reads as it did. -/
def lockErrorsSpec : ChangeSpec := { name := "lockErrors", fn := fun _ => fun
  | [d1, d2, d3] => { results := [.lit (.bool true)], args := [d1, d2, d3] }
  | _ => none }
def lockErrorsRow : OpenClaim := { program := "ytfgecaphhdedcaagreatdoor", sum := "e91b95a934d9be7a0a87504462597fc2ec5ac0b7ab2d873bcac98b164ec3526e", func := "replevin/replevinlaw34.LockErrors", spec := "lockErrors", inPlace := ["internal/bytealg.abigen_runtime_cmpstring", "slices.overlaps[replevin/lineage.Name]"], unfollowed := true, recurses := true, named := ["strconv.ErrSyntax", "strconv.ErrRange", "internal/strconv.uint64pow10", "math/bits.deBruijn32tab", "math/bits.deBruijn64tab"], plainKeys := false, apart := false, laid := [("math/bits.deBruijn32tab", laid_math_bits_deBruijn32tab), ("math/bits.deBruijn64tab", laid_math_bits_deBruijn64tab), ("internal/strconv.uint64pow10", laid_internal_strconv_uint64pow10), ("strconv.ErrRange", laid_strconv_ErrRange), ("strconv.ErrSyntax", laid_strconv_ErrSyntax)] }
def LockErrorsSaid : Prop := lockErrorsRow.holds Tryz.pinned (OpenSpec.ofChange lockErrorsSpec)

/-- ITS FALSE NEIGHBOUR: 'it returns false'. Refute it at one input. -/
def lockErrorsWrong : ChangeSpec := { name := "lockErrors", fn := fun _ => fun
  | [d1, d2, d3] => { results := [.lit (.bool false)], args := [d1, d2, d3] }
  | _ => none }
def LockErrorsWrongFalsely : Prop := lockErrorsRow.holds Tryz.pinned (OpenSpec.ofChange lockErrorsWrong)

/- THE SECOND FORM. 'bulk': how many values and letters a reading holds, each counted each time it is reached (what is shared counts as often as it is met; a slice's spare places count too). A statement '..UptoSaid' is the law's where the arguments, and the package variables that the reading takes, are together of bulk at most 1048576: NARROWER than '..Said'. Prove '..Said' where nothing that the law and all that it calls make is longer than what came in: it says more and counts as full. Else prove '..UptoSaid'. A law counts once. -/
mutual
def uptoBulk {H : Type} : DataW H → Nat
  | .lit (.string bytes) => bytes.length + 1
  | .lit _ => 1
  | .nil => 1
  | .ptr d => uptoBulk d + 1
  | .slice elems spare => uptoBulkAll elems + uptoBulkAll spare + 1
  | .agg parts => uptoBulkAll parts + 1
  | .iface _ d => uptoBulk d + 1
  | .map entries => uptoBulkEntries entries + 1
  | .held _ => 1
def uptoBulkAll {H : Type} : List (DataW H) → Nat
  | [] => 0
  | d :: r => uptoBulk d + uptoBulkAll r
def uptoBulkEntries {H : Type} : List (Lit × DataW H) → Nat
  | [] => 0
  | x :: r => uptoBulkEntry x + uptoBulkEntries r
def uptoBulkEntry {H : Type} : Lit × DataW H → Nat
  | (.string bytes, d) => bytes.length + uptoBulk d + 1
  | (_, d) => uptoBulk d + 1
 end
def uptoSmall : (H : Type) → List (DataW H) → Bool := fun _ ds => decide (uptoBulkAll ds ≤ 1048576)
def OpenSpec.upto (s : _root_.Go.ChangeSpec) : _root_.Go.OpenSpec := { _root_.Go.OpenSpec.ofChange s with cond := some uptoSmall }

/-- 'replevinlaw34.LockDecodes', WHERE WHAT IT READS IS OF BULK AT MOST 1048576: true; the input reads as it did. -/
def lockDecodesUptoRow : OpenClaim := { program := "ytfgecaphhdedcaagreatdoor", sum := "e91b95a934d9be7a0a87504462597fc2ec5ac0b7ab2d873bcac98b164ec3526e", func := "replevin/replevinlaw34.LockDecodes", spec := "lockDecodes", inPlace := ["internal/bytealg.abigen_runtime_cmpstring", "slices.overlaps[replevin/lineage.Name]"], unfollowed := true, recurses := true, named := ["strconv.ErrSyntax", "strconv.ErrRange", "internal/strconv.uint64pow10", "math/bits.deBruijn32tab", "math/bits.deBruijn64tab"], plainKeys := false, apart := false, laid := [("math/bits.deBruijn32tab", laid_math_bits_deBruijn32tab), ("math/bits.deBruijn64tab", laid_math_bits_deBruijn64tab), ("internal/strconv.uint64pow10", laid_internal_strconv_uint64pow10), ("strconv.ErrRange", laid_strconv_ErrRange), ("strconv.ErrSyntax", laid_strconv_ErrSyntax)], narrowed := true }
def LockDecodesUptoSaid : Prop := lockDecodesUptoRow.holds Tryz.pinned (OpenSpec.upto lockDecodesSpec)

/-- 'replevinlaw34.LockExcludes', WHERE WHAT IT READS IS OF BULK AT MOST 1048576: true; the input reads as it did. -/
def lockExcludesUptoRow : OpenClaim := { program := "ytfgecaphhdedcaagreatdoor", sum := "e91b95a934d9be7a0a87504462597fc2ec5ac0b7ab2d873bcac98b164ec3526e", func := "replevin/replevinlaw34.LockExcludes", spec := "lockExcludes", inPlace := ["internal/bytealg.abigen_runtime_cmpstring", "slices.overlaps[replevin/lineage.Name]"], unfollowed := true, recurses := true, named := ["strconv.ErrSyntax", "strconv.ErrRange", "internal/strconv.uint64pow10", "math/bits.deBruijn32tab", "math/bits.deBruijn64tab"], plainKeys := false, apart := false, laid := [("math/bits.deBruijn32tab", laid_math_bits_deBruijn32tab), ("math/bits.deBruijn64tab", laid_math_bits_deBruijn64tab), ("internal/strconv.uint64pow10", laid_internal_strconv_uint64pow10), ("strconv.ErrRange", laid_strconv_ErrRange), ("strconv.ErrSyntax", laid_strconv_ErrSyntax)], narrowed := true }
def LockExcludesUptoSaid : Prop := lockExcludesUptoRow.holds Tryz.pinned (OpenSpec.upto lockExcludesSpec)

/-- 'replevinlaw34.LockShares', WHERE WHAT IT READS IS OF BULK AT MOST 1048576: true; the input reads as it did. -/
def lockSharesUptoRow : OpenClaim := { program := "ytfgecaphhdedcaagreatdoor", sum := "e91b95a934d9be7a0a87504462597fc2ec5ac0b7ab2d873bcac98b164ec3526e", func := "replevin/replevinlaw34.LockShares", spec := "lockShares", inPlace := ["internal/bytealg.abigen_runtime_cmpstring", "slices.overlaps[replevin/lineage.Name]"], unfollowed := true, recurses := true, named := ["strconv.ErrSyntax", "strconv.ErrRange", "internal/strconv.uint64pow10", "math/bits.deBruijn32tab", "math/bits.deBruijn64tab"], plainKeys := false, apart := false, laid := [("math/bits.deBruijn32tab", laid_math_bits_deBruijn32tab), ("math/bits.deBruijn64tab", laid_math_bits_deBruijn64tab), ("internal/strconv.uint64pow10", laid_internal_strconv_uint64pow10), ("strconv.ErrRange", laid_strconv_ErrRange), ("strconv.ErrSyntax", laid_strconv_ErrSyntax)], narrowed := true }
def LockSharesUptoSaid : Prop := lockSharesUptoRow.holds Tryz.pinned (OpenSpec.upto lockSharesSpec)

/-- 'replevinlaw34.LockChecks', WHERE WHAT IT READS IS OF BULK AT MOST 1048576: true; the input reads as it did. -/
def lockChecksUptoRow : OpenClaim := { program := "ytfgecaphhdedcaagreatdoor", sum := "e91b95a934d9be7a0a87504462597fc2ec5ac0b7ab2d873bcac98b164ec3526e", func := "replevin/replevinlaw34.LockChecks", spec := "lockChecks", inPlace := ["internal/bytealg.abigen_runtime_cmpstring", "slices.overlaps[replevin/lineage.Name]"], unfollowed := true, recurses := true, named := ["strconv.ErrSyntax", "strconv.ErrRange", "internal/strconv.uint64pow10", "math/bits.deBruijn32tab", "math/bits.deBruijn64tab"], plainKeys := false, apart := false, laid := [("math/bits.deBruijn32tab", laid_math_bits_deBruijn32tab), ("math/bits.deBruijn64tab", laid_math_bits_deBruijn64tab), ("internal/strconv.uint64pow10", laid_internal_strconv_uint64pow10), ("strconv.ErrRange", laid_strconv_ErrRange), ("strconv.ErrSyntax", laid_strconv_ErrSyntax)], narrowed := true }
def LockChecksUptoSaid : Prop := lockChecksUptoRow.holds Tryz.pinned (OpenSpec.upto lockChecksSpec)

/-- 'replevinlaw34.LockEquals', WHERE WHAT IT READS IS OF BULK AT MOST 1048576: true; the input reads as it did. -/
def lockEqualsUptoRow : OpenClaim := { program := "ytfgecaphhdedcaagreatdoor", sum := "e91b95a934d9be7a0a87504462597fc2ec5ac0b7ab2d873bcac98b164ec3526e", func := "replevin/replevinlaw34.LockEquals", spec := "lockEquals", inPlace := ["internal/bytealg.abigen_runtime_cmpstring", "slices.overlaps[replevin/lineage.Name]"], unfollowed := true, recurses := true, named := ["strconv.ErrSyntax", "strconv.ErrRange", "internal/strconv.uint64pow10", "math/bits.deBruijn32tab", "math/bits.deBruijn64tab"], plainKeys := false, apart := false, laid := [("math/bits.deBruijn32tab", laid_math_bits_deBruijn32tab), ("math/bits.deBruijn64tab", laid_math_bits_deBruijn64tab), ("internal/strconv.uint64pow10", laid_internal_strconv_uint64pow10), ("strconv.ErrRange", laid_strconv_ErrRange), ("strconv.ErrSyntax", laid_strconv_ErrSyntax)], narrowed := true }
def LockEqualsUptoSaid : Prop := lockEqualsUptoRow.holds Tryz.pinned (OpenSpec.upto lockEqualsSpec)

/-- 'replevinlaw34.LockErrors', WHERE WHAT IT READS IS OF BULK AT MOST 1048576: true; the input reads as it did. -/
def lockErrorsUptoRow : OpenClaim := { program := "ytfgecaphhdedcaagreatdoor", sum := "e91b95a934d9be7a0a87504462597fc2ec5ac0b7ab2d873bcac98b164ec3526e", func := "replevin/replevinlaw34.LockErrors", spec := "lockErrors", inPlace := ["internal/bytealg.abigen_runtime_cmpstring", "slices.overlaps[replevin/lineage.Name]"], unfollowed := true, recurses := true, named := ["strconv.ErrSyntax", "strconv.ErrRange", "internal/strconv.uint64pow10", "math/bits.deBruijn32tab", "math/bits.deBruijn64tab"], plainKeys := false, apart := false, laid := [("math/bits.deBruijn32tab", laid_math_bits_deBruijn32tab), ("math/bits.deBruijn64tab", laid_math_bits_deBruijn64tab), ("internal/strconv.uint64pow10", laid_internal_strconv_uint64pow10), ("strconv.ErrRange", laid_strconv_ErrRange), ("strconv.ErrSyntax", laid_strconv_ErrSyntax)], narrowed := true }
def LockErrorsUptoSaid : Prop := lockErrorsUptoRow.holds Tryz.pinned (OpenSpec.upto lockErrorsSpec)

end Rows
end Go.Proofs.YtfgecaphhdedcaaGreatDoor
