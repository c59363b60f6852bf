/-
  NARROWER THAN 'FOR EVERY INPUT', by the rows' own cells (each row's printed sentence says how): UniverseMatchesReference: loops, laid · UniverseNumbering: laid · UniverseRanks: laid · UniverseTuples: laid · UniverseFull: laid · UniverseNames: loops, laid.
  DERIVED. THE GIVEN ROWS OF THIS SEAT. 6 by the template 'for every input the law returns true; each argument reads behind the call as it read before'; 0 by the template 'total and deterministic' (their statements: YtjglejfhbehfbaaDoorTotals.lean).
  GIVEN WITH THE SEED: the statements are not yours to turn. If you find one false, say at which input.
  Laid BY PROGRAM, IN A SANDBOX (cutbox-rows.mjs): the forced cells as the released guide's own fill.sh prints them over the translation f70ef6be41253b5d… (all of the seat's roots in one cut). By AI agents, Wed Nov 11 2026. No macro, syntax, notation, axiom, sorry.
-/
import Derived.Test.YtjglejfhbehfbaaDoorChecked
import GoSem.Claim
import GoSem.ClaimJoined
import GoSem.ClaimMapViews
import Derived.JoinedTies
import Derived.KernelRfl
namespace Go.Proofs.YtjglejfhbehfbaaDoor
/- THE CELL 'sum', in the pinned program and in every row, IS THE sha256 OF THE DUMP (.gsa) THAT YtjglejfhbehfbaaDoorProg.lean LOADS. Nothing in Lean hashes anything: it is a label: what it is worth is what the hold of that sum in a sandbox is worth. -/
noncomputable def Tryd.pinned : Pinned := { name := "ytjglejfhbehfbaadoor", sum := "f70ef6be41253b5dbfcc726f6fa37e523de864faad187b7659a4f4b68e2f3f71", checked := Tryd.checked }
namespace Rows
def none {H : Type} : Left H := { results := [], args := [] }

/- WHAT THE LISTED PACKAGE-LEVEL VARIABLES READ AS WHEN THE CALL BEGINS. Each datum BY PROGRAM (the guide's laid-datum.mjs) off the statement by which the dump's own 'gosem.cut.vars' lays the variable. In a bare row this is a premise. The card (YtjglejfhbehfbaaDoorCards.lean) ties it to the program's text. -/
def laid_math_bits_deBruijn32tab {H : Type} : DataW H := .agg [.lit (.int .u8 0), .lit (.int .u8 1), .lit (.int .u8 28), .lit (.int .u8 2), .lit (.int .u8 29), .lit (.int .u8 14), .lit (.int .u8 24), .lit (.int .u8 3), .lit (.int .u8 30), .lit (.int .u8 22), .lit (.int .u8 20), .lit (.int .u8 15), .lit (.int .u8 25), .lit (.int .u8 17), .lit (.int .u8 4), .lit (.int .u8 8), .lit (.int .u8 31), .lit (.int .u8 27), .lit (.int .u8 13), .lit (.int .u8 23), .lit (.int .u8 21), .lit (.int .u8 19), .lit (.int .u8 16), .lit (.int .u8 7), .lit (.int .u8 26), .lit (.int .u8 12), .lit (.int .u8 18), .lit (.int .u8 6), .lit (.int .u8 11), .lit (.int .u8 5), .lit (.int .u8 10), .lit (.int .u8 9)]
def laid_math_bits_deBruijn64tab {H : Type} : DataW H := .agg [.lit (.int .u8 0), .lit (.int .u8 1), .lit (.int .u8 56), .lit (.int .u8 2), .lit (.int .u8 57), .lit (.int .u8 49), .lit (.int .u8 28), .lit (.int .u8 3), .lit (.int .u8 61), .lit (.int .u8 58), .lit (.int .u8 42), .lit (.int .u8 50), .lit (.int .u8 38), .lit (.int .u8 29), .lit (.int .u8 17), .lit (.int .u8 4), .lit (.int .u8 62), .lit (.int .u8 47), .lit (.int .u8 59), .lit (.int .u8 36), .lit (.int .u8 45), .lit (.int .u8 43), .lit (.int .u8 51), .lit (.int .u8 22), .lit (.int .u8 53), .lit (.int .u8 39), .lit (.int .u8 33), .lit (.int .u8 30), .lit (.int .u8 24), .lit (.int .u8 18), .lit (.int .u8 12), .lit (.int .u8 5), .lit (.int .u8 63), .lit (.int .u8 55), .lit (.int .u8 48), .lit (.int .u8 27), .lit (.int .u8 60), .lit (.int .u8 41), .lit (.int .u8 37), .lit (.int .u8 16), .lit (.int .u8 46), .lit (.int .u8 35), .lit (.int .u8 44), .lit (.int .u8 21), .lit (.int .u8 52), .lit (.int .u8 32), .lit (.int .u8 23), .lit (.int .u8 11), .lit (.int .u8 54), .lit (.int .u8 26), .lit (.int .u8 40), .lit (.int .u8 15), .lit (.int .u8 34), .lit (.int .u8 20), .lit (.int .u8 31), .lit (.int .u8 10), .lit (.int .u8 25), .lit (.int .u8 14), .lit (.int .u8 19), .lit (.int .u8 9), .lit (.int .u8 13), .lit (.int .u8 8), .lit (.int .u8 7), .lit (.int .u8 6)]
def laid_internal_strconv_uint64pow10 {H : Type} : DataW H := .agg [.lit (.int .u64 1), .lit (.int .u64 10), .lit (.int .u64 100), .lit (.int .u64 1000), .lit (.int .u64 10000), .lit (.int .u64 100000), .lit (.int .u64 1000000), .lit (.int .u64 10000000), .lit (.int .u64 100000000), .lit (.int .u64 1000000000), .lit (.int .u64 10000000000), .lit (.int .u64 100000000000), .lit (.int .u64 1000000000000), .lit (.int .u64 10000000000000), .lit (.int .u64 100000000000000), .lit (.int .u64 1000000000000000), .lit (.int .u64 10000000000000000), .lit (.int .u64 100000000000000000), .lit (.int .u64 1000000000000000000), .lit (.int .u64 10000000000000000000)]

/-- 'armaturelaw05.UniverseMatchesReference': WHATEVER THE INPUT: true; the input reads as it did. -/
def universeMatchesReferenceSpec : ChangeSpec := { name := "universeMatchesReference", fn := fun _ => fun
  | [d1, d2, d3, d4, d5, d6, d7] => { results := [.lit (.bool true)], args := [d1, d2, d3, d4, d5, d6, d7] }
  | _ => none }
def universeMatchesReferenceRow : OpenClaim := { program := "ytjglejfhbehfbaadoor", sum := "f70ef6be41253b5dbfcc726f6fa37e523de864faad187b7659a4f4b68e2f3f71", func := "armature/armaturelaw05.UniverseMatchesReference", spec := "universeMatchesReference", unfollowed := true, recurses := true, named := ["internal/strconv.uint64pow10", "math/bits.deBruijn32tab", "math/bits.deBruijn64tab"], loops := true, apart := false, laid := [("math/bits.deBruijn32tab", laid_math_bits_deBruijn32tab), ("math/bits.deBruijn64tab", laid_math_bits_deBruijn64tab), ("internal/strconv.uint64pow10", laid_internal_strconv_uint64pow10)] }
def UniverseMatchesReferenceSaid : Prop := universeMatchesReferenceRow.holds Tryd.pinned (OpenSpec.ofChange universeMatchesReferenceSpec)

/-- ITS FALSE NEIGHBOUR: 'it returns false'. Refute it at one input. -/
def universeMatchesReferenceWrong : ChangeSpec := { name := "universeMatchesReference", fn := fun _ => fun
  | [d1, d2, d3, d4, d5, d6, d7] => { results := [.lit (.bool false)], args := [d1, d2, d3, d4, d5, d6, d7] }
  | _ => none }
def UniverseMatchesReferenceWrongFalsely : Prop := universeMatchesReferenceRow.holds Tryd.pinned (OpenSpec.ofChange universeMatchesReferenceWrong)

/-- 'armaturelaw05.UniverseNumbering': WHATEVER THE INPUT: true; the input reads as it did. -/
def universeNumberingSpec : ChangeSpec := { name := "universeNumbering", fn := fun _ => fun
  | [d] => { results := [.lit (.bool true)], args := [d] }
  | _ => none }
def universeNumberingRow : OpenClaim := { program := "ytjglejfhbehfbaadoor", sum := "f70ef6be41253b5dbfcc726f6fa37e523de864faad187b7659a4f4b68e2f3f71", func := "armature/armaturelaw05.UniverseNumbering", spec := "universeNumbering", unfollowed := true, recurses := true, named := ["internal/strconv.uint64pow10", "math/bits.deBruijn32tab", "math/bits.deBruijn64tab"], apart := false, laid := [("math/bits.deBruijn32tab", laid_math_bits_deBruijn32tab), ("math/bits.deBruijn64tab", laid_math_bits_deBruijn64tab), ("internal/strconv.uint64pow10", laid_internal_strconv_uint64pow10)] }
def UniverseNumberingSaid : Prop := universeNumberingRow.holds Tryd.pinned (OpenSpec.ofChange universeNumberingSpec)

/-- ITS FALSE NEIGHBOUR: 'it returns false'. Refute it at one input. -/
def universeNumberingWrong : ChangeSpec := { name := "universeNumbering", fn := fun _ => fun
  | [d] => { results := [.lit (.bool false)], args := [d] }
  | _ => none }
def UniverseNumberingWrongFalsely : Prop := universeNumberingRow.holds Tryd.pinned (OpenSpec.ofChange universeNumberingWrong)

/-- 'armaturelaw05.UniverseRanks': WHATEVER THE INPUT: true; the input reads as it did. -/
def universeRanksSpec : ChangeSpec := { name := "universeRanks", fn := fun _ => fun
  | [d1, d2, d3] => { results := [.lit (.bool true)], args := [d1, d2, d3] }
  | _ => none }
def universeRanksRow : OpenClaim := { program := "ytjglejfhbehfbaadoor", sum := "f70ef6be41253b5dbfcc726f6fa37e523de864faad187b7659a4f4b68e2f3f71", func := "armature/armaturelaw05.UniverseRanks", spec := "universeRanks", unfollowed := true, recurses := true, named := ["internal/strconv.uint64pow10", "math/bits.deBruijn32tab", "math/bits.deBruijn64tab"], apart := false, laid := [("math/bits.deBruijn32tab", laid_math_bits_deBruijn32tab), ("math/bits.deBruijn64tab", laid_math_bits_deBruijn64tab), ("internal/strconv.uint64pow10", laid_internal_strconv_uint64pow10)] }
def UniverseRanksSaid : Prop := universeRanksRow.holds Tryd.pinned (OpenSpec.ofChange universeRanksSpec)

/-- ITS FALSE NEIGHBOUR: 'it returns false'. Refute it at one input. -/
def universeRanksWrong : ChangeSpec := { name := "universeRanks", fn := fun _ => fun
  | [d1, d2, d3] => { results := [.lit (.bool false)], args := [d1, d2, d3] }
  | _ => none }
def UniverseRanksWrongFalsely : Prop := universeRanksRow.holds Tryd.pinned (OpenSpec.ofChange universeRanksWrong)

/-- 'armaturelaw05.UniverseTuples': WHATEVER THE INPUT: true; the input reads as it did. -/
def universeTuplesSpec : ChangeSpec := { name := "universeTuples", fn := fun _ => fun
  | [d1, d2, d3] => { results := [.lit (.bool true)], args := [d1, d2, d3] }
  | _ => none }
def universeTuplesRow : OpenClaim := { program := "ytjglejfhbehfbaadoor", sum := "f70ef6be41253b5dbfcc726f6fa37e523de864faad187b7659a4f4b68e2f3f71", func := "armature/armaturelaw05.UniverseTuples", spec := "universeTuples", unfollowed := true, recurses := true, named := ["internal/strconv.uint64pow10", "math/bits.deBruijn32tab", "math/bits.deBruijn64tab"], apart := false, laid := [("math/bits.deBruijn32tab", laid_math_bits_deBruijn32tab), ("math/bits.deBruijn64tab", laid_math_bits_deBruijn64tab), ("internal/strconv.uint64pow10", laid_internal_strconv_uint64pow10)] }
def UniverseTuplesSaid : Prop := universeTuplesRow.holds Tryd.pinned (OpenSpec.ofChange universeTuplesSpec)

/-- ITS FALSE NEIGHBOUR: 'it returns false'. Refute it at one input. -/
def universeTuplesWrong : ChangeSpec := { name := "universeTuples", fn := fun _ => fun
  | [d1, d2, d3] => { results := [.lit (.bool false)], args := [d1, d2, d3] }
  | _ => none }
def UniverseTuplesWrongFalsely : Prop := universeTuplesRow.holds Tryd.pinned (OpenSpec.ofChange universeTuplesWrong)

/-- 'armaturelaw05.UniverseFull': WHATEVER THE INPUT: true; the input reads as it did. -/
def universeFullSpec : ChangeSpec := { name := "universeFull", fn := fun _ => fun
  | [d1, d2] => { results := [.lit (.bool true)], args := [d1, d2] }
  | _ => none }
def universeFullRow : OpenClaim := { program := "ytjglejfhbehfbaadoor", sum := "f70ef6be41253b5dbfcc726f6fa37e523de864faad187b7659a4f4b68e2f3f71", func := "armature/armaturelaw05.UniverseFull", spec := "universeFull", unfollowed := true, recurses := true, named := ["internal/strconv.uint64pow10", "math/bits.deBruijn32tab", "math/bits.deBruijn64tab"], apart := false, laid := [("math/bits.deBruijn32tab", laid_math_bits_deBruijn32tab), ("math/bits.deBruijn64tab", laid_math_bits_deBruijn64tab), ("internal/strconv.uint64pow10", laid_internal_strconv_uint64pow10)] }
def UniverseFullSaid : Prop := universeFullRow.holds Tryd.pinned (OpenSpec.ofChange universeFullSpec)

/-- ITS FALSE NEIGHBOUR: 'it returns false'. Refute it at one input. -/
def universeFullWrong : ChangeSpec := { name := "universeFull", fn := fun _ => fun
  | [d1, d2] => { results := [.lit (.bool false)], args := [d1, d2] }
  | _ => none }
def UniverseFullWrongFalsely : Prop := universeFullRow.holds Tryd.pinned (OpenSpec.ofChange universeFullWrong)

/-- 'armaturelaw05.UniverseNames': WHATEVER THE INPUT: true; the input reads as it did. -/
def universeNamesSpec : ChangeSpec := { name := "universeNames", fn := fun _ => fun
  | [d1, d2, d3, d4] => { results := [.lit (.bool true)], args := [d1, d2, d3, d4] }
  | _ => none }
def universeNamesRow : OpenClaim := { program := "ytjglejfhbehfbaadoor", sum := "f70ef6be41253b5dbfcc726f6fa37e523de864faad187b7659a4f4b68e2f3f71", func := "armature/armaturelaw05.UniverseNames", spec := "universeNames", unfollowed := true, recurses := true, named := ["internal/strconv.uint64pow10", "math/bits.deBruijn32tab", "math/bits.deBruijn64tab"], loops := true, apart := false, laid := [("math/bits.deBruijn32tab", laid_math_bits_deBruijn32tab), ("math/bits.deBruijn64tab", laid_math_bits_deBruijn64tab), ("internal/strconv.uint64pow10", laid_internal_strconv_uint64pow10)] }
def UniverseNamesSaid : Prop := universeNamesRow.holds Tryd.pinned (OpenSpec.ofChange universeNamesSpec)

/-- ITS FALSE NEIGHBOUR: 'it returns false'. Refute it at one input. -/
def universeNamesWrong : ChangeSpec := { name := "universeNames", fn := fun _ => fun
  | [d1, d2, d3, d4] => { results := [.lit (.bool false)], args := [d1, d2, d3, d4] }
  | _ => none }
def UniverseNamesWrongFalsely : Prop := universeNamesRow.holds Tryd.pinned (OpenSpec.ofChange universeNamesWrong)

/- THE SECOND FORM. 'bulk': how many values and letters a reading holds, each counted each time it is reached (what is shared counts as often as it is met; a slice's spare places count too). A statement '..UptoSaid' is the law's where the arguments, and the package variables that the reading takes, are together of bulk at most 1048576: NARROWER than '..Said'. Prove '..Said' where nothing that the law and all that it calls make is longer than what came in: it says more and counts as full. Else prove '..UptoSaid'. A law counts once. -/
mutual
def uptoBulk {H : Type} : DataW H → Nat
  | .lit (.string bytes) => bytes.length + 1
  | .lit _ => 1
  | .nil => 1
  | .ptr d => uptoBulk d + 1
  | .slice elems spare => uptoBulkAll elems + uptoBulkAll spare + 1
  | .agg parts => uptoBulkAll parts + 1
  | .iface _ d => uptoBulk d + 1
  | .map entries => uptoBulkEntries entries + 1
  | .held _ => 1
def uptoBulkAll {H : Type} : List (DataW H) → Nat
  | [] => 0
  | d :: r => uptoBulk d + uptoBulkAll r
def uptoBulkEntries {H : Type} : List (Lit × DataW H) → Nat
  | [] => 0
  | x :: r => uptoBulkEntry x + uptoBulkEntries r
def uptoBulkEntry {H : Type} : Lit × DataW H → Nat
  | (.string bytes, d) => bytes.length + uptoBulk d + 1
  | (_, d) => uptoBulk d + 1
 end
def uptoSmall : (H : Type) → List (DataW H) → Bool := fun _ ds => decide (uptoBulkAll ds ≤ 1048576)
def OpenSpec.upto (s : _root_.Go.ChangeSpec) : _root_.Go.OpenSpec := { _root_.Go.OpenSpec.ofChange s with cond := some uptoSmall }

/-- 'armaturelaw05.UniverseMatchesReference', WHERE WHAT IT READS IS OF BULK AT MOST 1048576: true; the input reads as it did. -/
def universeMatchesReferenceUptoRow : OpenClaim := { program := "ytjglejfhbehfbaadoor", sum := "f70ef6be41253b5dbfcc726f6fa37e523de864faad187b7659a4f4b68e2f3f71", func := "armature/armaturelaw05.UniverseMatchesReference", spec := "universeMatchesReference", unfollowed := true, recurses := true, named := ["internal/strconv.uint64pow10", "math/bits.deBruijn32tab", "math/bits.deBruijn64tab"], loops := true, apart := false, laid := [("math/bits.deBruijn32tab", laid_math_bits_deBruijn32tab), ("math/bits.deBruijn64tab", laid_math_bits_deBruijn64tab), ("internal/strconv.uint64pow10", laid_internal_strconv_uint64pow10)], narrowed := true }
def UniverseMatchesReferenceUptoSaid : Prop := universeMatchesReferenceUptoRow.holds Tryd.pinned (OpenSpec.upto universeMatchesReferenceSpec)

/-- 'armaturelaw05.UniverseNumbering', WHERE WHAT IT READS IS OF BULK AT MOST 1048576: true; the input reads as it did. -/
def universeNumberingUptoRow : OpenClaim := { program := "ytjglejfhbehfbaadoor", sum := "f70ef6be41253b5dbfcc726f6fa37e523de864faad187b7659a4f4b68e2f3f71", func := "armature/armaturelaw05.UniverseNumbering", spec := "universeNumbering", unfollowed := true, recurses := true, named := ["internal/strconv.uint64pow10", "math/bits.deBruijn32tab", "math/bits.deBruijn64tab"], apart := false, laid := [("math/bits.deBruijn32tab", laid_math_bits_deBruijn32tab), ("math/bits.deBruijn64tab", laid_math_bits_deBruijn64tab), ("internal/strconv.uint64pow10", laid_internal_strconv_uint64pow10)], narrowed := true }
def UniverseNumberingUptoSaid : Prop := universeNumberingUptoRow.holds Tryd.pinned (OpenSpec.upto universeNumberingSpec)

/-- 'armaturelaw05.UniverseRanks', WHERE WHAT IT READS IS OF BULK AT MOST 1048576: true; the input reads as it did. -/
def universeRanksUptoRow : OpenClaim := { program := "ytjglejfhbehfbaadoor", sum := "f70ef6be41253b5dbfcc726f6fa37e523de864faad187b7659a4f4b68e2f3f71", func := "armature/armaturelaw05.UniverseRanks", spec := "universeRanks", unfollowed := true, recurses := true, named := ["internal/strconv.uint64pow10", "math/bits.deBruijn32tab", "math/bits.deBruijn64tab"], apart := false, laid := [("math/bits.deBruijn32tab", laid_math_bits_deBruijn32tab), ("math/bits.deBruijn64tab", laid_math_bits_deBruijn64tab), ("internal/strconv.uint64pow10", laid_internal_strconv_uint64pow10)], narrowed := true }
def UniverseRanksUptoSaid : Prop := universeRanksUptoRow.holds Tryd.pinned (OpenSpec.upto universeRanksSpec)

/-- 'armaturelaw05.UniverseTuples', WHERE WHAT IT READS IS OF BULK AT MOST 1048576: true; the input reads as it did. -/
def universeTuplesUptoRow : OpenClaim := { program := "ytjglejfhbehfbaadoor", sum := "f70ef6be41253b5dbfcc726f6fa37e523de864faad187b7659a4f4b68e2f3f71", func := "armature/armaturelaw05.UniverseTuples", spec := "universeTuples", unfollowed := true, recurses := true, named := ["internal/strconv.uint64pow10", "math/bits.deBruijn32tab", "math/bits.deBruijn64tab"], apart := false, laid := [("math/bits.deBruijn32tab", laid_math_bits_deBruijn32tab), ("math/bits.deBruijn64tab", laid_math_bits_deBruijn64tab), ("internal/strconv.uint64pow10", laid_internal_strconv_uint64pow10)], narrowed := true }
def UniverseTuplesUptoSaid : Prop := universeTuplesUptoRow.holds Tryd.pinned (OpenSpec.upto universeTuplesSpec)

/-- 'armaturelaw05.UniverseFull', WHERE WHAT IT READS IS OF BULK AT MOST 1048576: true; the input reads as it did. -/
def universeFullUptoRow : OpenClaim := { program := "ytjglejfhbehfbaadoor", sum := "f70ef6be41253b5dbfcc726f6fa37e523de864faad187b7659a4f4b68e2f3f71", func := "armature/armaturelaw05.UniverseFull", spec := "universeFull", unfollowed := true, recurses := true, named := ["internal/strconv.uint64pow10", "math/bits.deBruijn32tab", "math/bits.deBruijn64tab"], apart := false, laid := [("math/bits.deBruijn32tab", laid_math_bits_deBruijn32tab), ("math/bits.deBruijn64tab", laid_math_bits_deBruijn64tab), ("internal/strconv.uint64pow10", laid_internal_strconv_uint64pow10)], narrowed := true }
def UniverseFullUptoSaid : Prop := universeFullUptoRow.holds Tryd.pinned (OpenSpec.upto universeFullSpec)

/-- 'armaturelaw05.UniverseNames', WHERE WHAT IT READS IS OF BULK AT MOST 1048576: true; the input reads as it did. -/
def universeNamesUptoRow : OpenClaim := { program := "ytjglejfhbehfbaadoor", sum := "f70ef6be41253b5dbfcc726f6fa37e523de864faad187b7659a4f4b68e2f3f71", func := "armature/armaturelaw05.UniverseNames", spec := "universeNames", unfollowed := true, recurses := true, named := ["internal/strconv.uint64pow10", "math/bits.deBruijn32tab", "math/bits.deBruijn64tab"], loops := true, apart := false, laid := [("math/bits.deBruijn32tab", laid_math_bits_deBruijn32tab), ("math/bits.deBruijn64tab", laid_math_bits_deBruijn64tab), ("internal/strconv.uint64pow10", laid_internal_strconv_uint64pow10)], narrowed := true }
def UniverseNamesUptoSaid : Prop := universeNamesUptoRow.holds Tryd.pinned (OpenSpec.upto universeNamesSpec)

end Rows
end Go.Proofs.YtjglejfhbehfbaaDoor
