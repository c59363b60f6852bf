/-
  No cell of these rows narrows 'for every input' (looked for: loops, veiled, ifaces, maps, wideKeys, modest, calm, conditions, laid).
  DERIVED. THE GIVEN ROWS OF THIS SEAT. 7 by the template 'for every input the law returns true; each argument reads behind the call as it read before'; 0 by the template 'total and deterministic' (their statements: YtblllokpdpecbaaTotals.lean).
  GIVEN WITH THE SEED: the statements are not yours to turn. If you find one false, say at which input.
  Laid BY PROGRAM, IN A SANDBOX (cutbox-rows.mjs): the forced cells as the released guide's own fill.sh prints them over the translation 672fc8a26f37a2ab… (all of the seat's roots in one cut). By AI agents, Wed Nov 11 2026. No macro, syntax, notation, axiom, sorry.
-/
import Derived.Test.YtblllokpdpecbaaChecked
import GoSem.Claim
import GoSem.ClaimJoined
import GoSem.ClaimMapViews
import Derived.JoinedTies
import Derived.KernelRfl
namespace Go.Proofs.Ytblllokpdpecbaa
/- THE CELL 'sum', in the pinned program and in every row, IS THE sha256 OF THE DUMP (.gsa) THAT YtblllokpdpecbaaProg.lean LOADS. Nothing in Lean hashes anything: it is a label: what it is worth is what the hold of that sum in a sandbox is worth. -/
noncomputable def Try.pinned : Pinned := { name := "ytblllokpdpecbaa", sum := "672fc8a26f37a2abe5cbc0b32509e631fe9ca75d94149bbc8fdacc9bbe06dae6", checked := Try.checked }
namespace Rows
def none {H : Type} : Left H := { results := [], args := [] }

/-- 'armaturelaw06.RelationOverrides': WHATEVER THE INPUT: true; the input reads as it did. -/
def relationOverridesSpec : ChangeSpec := { name := "relationOverrides", fn := fun _ => fun
  | [d] => { results := [.lit (.bool true)], args := [d] }
  | _ => none }
def relationOverridesRow : OpenClaim := { program := "ytblllokpdpecbaa", sum := "672fc8a26f37a2abe5cbc0b32509e631fe9ca75d94149bbc8fdacc9bbe06dae6", func := "armature/armaturelaw06.RelationOverrides", spec := "relationOverrides", unfollowed := true, recurses := true, apart := false }
def RelationOverridesSaid : Prop := relationOverridesRow.holds Try.pinned (OpenSpec.ofChange relationOverridesSpec)

/-- ITS FALSE NEIGHBOUR: 'it returns false'. Refute it at one input. -/
def relationOverridesWrong : ChangeSpec := { name := "relationOverrides", fn := fun _ => fun
  | [d] => { results := [.lit (.bool false)], args := [d] }
  | _ => none }
def RelationOverridesWrongFalsely : Prop := relationOverridesRow.holds Try.pinned (OpenSpec.ofChange relationOverridesWrong)

/-- 'armaturelaw06.RelationLattice': WHATEVER THE INPUT: true; the input reads as it did. -/
def relationLatticeSpec : ChangeSpec := { name := "relationLattice", fn := fun _ => fun
  | [d] => { results := [.lit (.bool true)], args := [d] }
  | _ => none }
def relationLatticeRow : OpenClaim := { program := "ytblllokpdpecbaa", sum := "672fc8a26f37a2abe5cbc0b32509e631fe9ca75d94149bbc8fdacc9bbe06dae6", func := "armature/armaturelaw06.RelationLattice", spec := "relationLattice", unfollowed := true, recurses := true, apart := false }
def RelationLatticeSaid : Prop := relationLatticeRow.holds Try.pinned (OpenSpec.ofChange relationLatticeSpec)

/-- ITS FALSE NEIGHBOUR: 'it returns false'. Refute it at one input. -/
def relationLatticeWrong : ChangeSpec := { name := "relationLattice", fn := fun _ => fun
  | [d] => { results := [.lit (.bool false)], args := [d] }
  | _ => none }
def RelationLatticeWrongFalsely : Prop := relationLatticeRow.holds Try.pinned (OpenSpec.ofChange relationLatticeWrong)

/-- 'armaturelaw06.RelationJoins': WHATEVER THE INPUT: true; the input reads as it did. -/
def relationJoinsSpec : ChangeSpec := { name := "relationJoins", fn := fun _ => fun
  | [d1, d2] => { results := [.lit (.bool true)], args := [d1, d2] }
  | _ => none }
def relationJoinsRow : OpenClaim := { program := "ytblllokpdpecbaa", sum := "672fc8a26f37a2abe5cbc0b32509e631fe9ca75d94149bbc8fdacc9bbe06dae6", func := "armature/armaturelaw06.RelationJoins", spec := "relationJoins", unfollowed := true, recurses := true, apart := false }
def RelationJoinsSaid : Prop := relationJoinsRow.holds Try.pinned (OpenSpec.ofChange relationJoinsSpec)

/-- ITS FALSE NEIGHBOUR: 'it returns false'. Refute it at one input. -/
def relationJoinsWrong : ChangeSpec := { name := "relationJoins", fn := fun _ => fun
  | [d1, d2] => { results := [.lit (.bool false)], args := [d1, d2] }
  | _ => none }
def RelationJoinsWrongFalsely : Prop := relationJoinsRow.holds Try.pinned (OpenSpec.ofChange relationJoinsWrong)

/-- 'armaturelaw06.RelationClosures': WHATEVER THE INPUT: true; the input reads as it did. -/
def relationClosuresSpec : ChangeSpec := { name := "relationClosures", fn := fun _ => fun
  | [d] => { results := [.lit (.bool true)], args := [d] }
  | _ => none }
def relationClosuresRow : OpenClaim := { program := "ytblllokpdpecbaa", sum := "672fc8a26f37a2abe5cbc0b32509e631fe9ca75d94149bbc8fdacc9bbe06dae6", func := "armature/armaturelaw06.RelationClosures", spec := "relationClosures", unfollowed := true, recurses := true, apart := false }
def RelationClosuresSaid : Prop := relationClosuresRow.holds Try.pinned (OpenSpec.ofChange relationClosuresSpec)

/-- ITS FALSE NEIGHBOUR: 'it returns false'. Refute it at one input. -/
def relationClosuresWrong : ChangeSpec := { name := "relationClosures", fn := fun _ => fun
  | [d] => { results := [.lit (.bool false)], args := [d] }
  | _ => none }
def RelationClosuresWrongFalsely : Prop := relationClosuresRow.holds Try.pinned (OpenSpec.ofChange relationClosuresWrong)

/-- 'armaturelaw06.RelationTransposes': WHATEVER THE INPUT: true; the input reads as it did. -/
def relationTransposesSpec : ChangeSpec := { name := "relationTransposes", fn := fun _ => fun
  | [d] => { results := [.lit (.bool true)], args := [d] }
  | _ => none }
def relationTransposesRow : OpenClaim := { program := "ytblllokpdpecbaa", sum := "672fc8a26f37a2abe5cbc0b32509e631fe9ca75d94149bbc8fdacc9bbe06dae6", func := "armature/armaturelaw06.RelationTransposes", spec := "relationTransposes", unfollowed := true, recurses := true, apart := false }
def RelationTransposesSaid : Prop := relationTransposesRow.holds Try.pinned (OpenSpec.ofChange relationTransposesSpec)

/-- ITS FALSE NEIGHBOUR: 'it returns false'. Refute it at one input. -/
def relationTransposesWrong : ChangeSpec := { name := "relationTransposes", fn := fun _ => fun
  | [d] => { results := [.lit (.bool false)], args := [d] }
  | _ => none }
def RelationTransposesWrongFalsely : Prop := relationTransposesRow.holds Try.pinned (OpenSpec.ofChange relationTransposesWrong)

/-- 'armaturelaw06.RelationMatchesReference': WHATEVER THE INPUT: true; the input reads as it did. -/
def relationMatchesReferenceSpec : ChangeSpec := { name := "relationMatchesReference", fn := fun _ => fun
  | [d1, d2, d3, d4, d5] => { results := [.lit (.bool true)], args := [d1, d2, d3, d4, d5] }
  | _ => none }
def relationMatchesReferenceRow : OpenClaim := { program := "ytblllokpdpecbaa", sum := "672fc8a26f37a2abe5cbc0b32509e631fe9ca75d94149bbc8fdacc9bbe06dae6", func := "armature/armaturelaw06.RelationMatchesReference", spec := "relationMatchesReference", unfollowed := true, recurses := true, apart := false }
def RelationMatchesReferenceSaid : Prop := relationMatchesReferenceRow.holds Try.pinned (OpenSpec.ofChange relationMatchesReferenceSpec)

/-- ITS FALSE NEIGHBOUR: 'it returns false'. Refute it at one input. -/
def relationMatchesReferenceWrong : ChangeSpec := { name := "relationMatchesReference", fn := fun _ => fun
  | [d1, d2, d3, d4, d5] => { results := [.lit (.bool false)], args := [d1, d2, d3, d4, d5] }
  | _ => none }
def RelationMatchesReferenceWrongFalsely : Prop := relationMatchesReferenceRow.holds Try.pinned (OpenSpec.ofChange relationMatchesReferenceWrong)

/-- 'armaturelaw06.RelationValidity': WHATEVER THE INPUT: true; the input reads as it did. -/
def relationValiditySpec : ChangeSpec := { name := "relationValidity", fn := fun _ => fun
  | [d1, d2] => { results := [.lit (.bool true)], args := [d1, d2] }
  | _ => none }
def relationValidityRow : OpenClaim := { program := "ytblllokpdpecbaa", sum := "672fc8a26f37a2abe5cbc0b32509e631fe9ca75d94149bbc8fdacc9bbe06dae6", func := "armature/armaturelaw06.RelationValidity", spec := "relationValidity", unfollowed := true, recurses := true, apart := false }
def RelationValiditySaid : Prop := relationValidityRow.holds Try.pinned (OpenSpec.ofChange relationValiditySpec)

/-- ITS FALSE NEIGHBOUR: 'it returns false'. Refute it at one input. -/
def relationValidityWrong : ChangeSpec := { name := "relationValidity", fn := fun _ => fun
  | [d1, d2] => { results := [.lit (.bool false)], args := [d1, d2] }
  | _ => none }
def RelationValidityWrongFalsely : Prop := relationValidityRow.holds Try.pinned (OpenSpec.ofChange relationValidityWrong)

/- THE SECOND FORM. 'bulk': how many values and letters a reading holds, each counted each time it is reached (what is shared counts as often as it is met; a slice's spare places count too). A statement '..UptoSaid' is the law's where the arguments, and the package variables that the reading takes, are together of bulk at most 1048576: NARROWER than '..Said'. Prove '..Said' where nothing that the law and all that it calls make is longer than what came in: it says more and counts as full. Else prove '..UptoSaid'. A law counts once. -/
mutual
def uptoBulk {H : Type} : DataW H → Nat
  | .lit (.string bytes) => bytes.length + 1
  | .lit _ => 1
  | .nil => 1
  | .ptr d => uptoBulk d + 1
  | .slice elems spare => uptoBulkAll elems + uptoBulkAll spare + 1
  | .agg parts => uptoBulkAll parts + 1
  | .iface _ d => uptoBulk d + 1
  | .map entries => uptoBulkEntries entries + 1
  | .held _ => 1
def uptoBulkAll {H : Type} : List (DataW H) → Nat
  | [] => 0
  | d :: r => uptoBulk d + uptoBulkAll r
def uptoBulkEntries {H : Type} : List (Lit × DataW H) → Nat
  | [] => 0
  | x :: r => uptoBulkEntry x + uptoBulkEntries r
def uptoBulkEntry {H : Type} : Lit × DataW H → Nat
  | (.string bytes, d) => bytes.length + uptoBulk d + 1
  | (_, d) => uptoBulk d + 1
 end
def uptoSmall : (H : Type) → List (DataW H) → Bool := fun _ ds => decide (uptoBulkAll ds ≤ 1048576)
def OpenSpec.upto (s : _root_.Go.ChangeSpec) : _root_.Go.OpenSpec := { _root_.Go.OpenSpec.ofChange s with cond := some uptoSmall }

/-- 'armaturelaw06.RelationOverrides', WHERE WHAT IT READS IS OF BULK AT MOST 1048576: true; the input reads as it did. -/
def relationOverridesUptoRow : OpenClaim := { program := "ytblllokpdpecbaa", sum := "672fc8a26f37a2abe5cbc0b32509e631fe9ca75d94149bbc8fdacc9bbe06dae6", func := "armature/armaturelaw06.RelationOverrides", spec := "relationOverrides", unfollowed := true, recurses := true, apart := false, narrowed := true }
def RelationOverridesUptoSaid : Prop := relationOverridesUptoRow.holds Try.pinned (OpenSpec.upto relationOverridesSpec)

/-- 'armaturelaw06.RelationLattice', WHERE WHAT IT READS IS OF BULK AT MOST 1048576: true; the input reads as it did. -/
def relationLatticeUptoRow : OpenClaim := { program := "ytblllokpdpecbaa", sum := "672fc8a26f37a2abe5cbc0b32509e631fe9ca75d94149bbc8fdacc9bbe06dae6", func := "armature/armaturelaw06.RelationLattice", spec := "relationLattice", unfollowed := true, recurses := true, apart := false, narrowed := true }
def RelationLatticeUptoSaid : Prop := relationLatticeUptoRow.holds Try.pinned (OpenSpec.upto relationLatticeSpec)

/-- 'armaturelaw06.RelationJoins', WHERE WHAT IT READS IS OF BULK AT MOST 1048576: true; the input reads as it did. -/
def relationJoinsUptoRow : OpenClaim := { program := "ytblllokpdpecbaa", sum := "672fc8a26f37a2abe5cbc0b32509e631fe9ca75d94149bbc8fdacc9bbe06dae6", func := "armature/armaturelaw06.RelationJoins", spec := "relationJoins", unfollowed := true, recurses := true, apart := false, narrowed := true }
def RelationJoinsUptoSaid : Prop := relationJoinsUptoRow.holds Try.pinned (OpenSpec.upto relationJoinsSpec)

/-- 'armaturelaw06.RelationClosures', WHERE WHAT IT READS IS OF BULK AT MOST 1048576: true; the input reads as it did. -/
def relationClosuresUptoRow : OpenClaim := { program := "ytblllokpdpecbaa", sum := "672fc8a26f37a2abe5cbc0b32509e631fe9ca75d94149bbc8fdacc9bbe06dae6", func := "armature/armaturelaw06.RelationClosures", spec := "relationClosures", unfollowed := true, recurses := true, apart := false, narrowed := true }
def RelationClosuresUptoSaid : Prop := relationClosuresUptoRow.holds Try.pinned (OpenSpec.upto relationClosuresSpec)

/-- 'armaturelaw06.RelationTransposes', WHERE WHAT IT READS IS OF BULK AT MOST 1048576: true; the input reads as it did. -/
def relationTransposesUptoRow : OpenClaim := { program := "ytblllokpdpecbaa", sum := "672fc8a26f37a2abe5cbc0b32509e631fe9ca75d94149bbc8fdacc9bbe06dae6", func := "armature/armaturelaw06.RelationTransposes", spec := "relationTransposes", unfollowed := true, recurses := true, apart := false, narrowed := true }
def RelationTransposesUptoSaid : Prop := relationTransposesUptoRow.holds Try.pinned (OpenSpec.upto relationTransposesSpec)

/-- 'armaturelaw06.RelationMatchesReference', WHERE WHAT IT READS IS OF BULK AT MOST 1048576: true; the input reads as it did. -/
def relationMatchesReferenceUptoRow : OpenClaim := { program := "ytblllokpdpecbaa", sum := "672fc8a26f37a2abe5cbc0b32509e631fe9ca75d94149bbc8fdacc9bbe06dae6", func := "armature/armaturelaw06.RelationMatchesReference", spec := "relationMatchesReference", unfollowed := true, recurses := true, apart := false, narrowed := true }
def RelationMatchesReferenceUptoSaid : Prop := relationMatchesReferenceUptoRow.holds Try.pinned (OpenSpec.upto relationMatchesReferenceSpec)

/-- 'armaturelaw06.RelationValidity', WHERE WHAT IT READS IS OF BULK AT MOST 1048576: true; the input reads as it did. -/
def relationValidityUptoRow : OpenClaim := { program := "ytblllokpdpecbaa", sum := "672fc8a26f37a2abe5cbc0b32509e631fe9ca75d94149bbc8fdacc9bbe06dae6", func := "armature/armaturelaw06.RelationValidity", spec := "relationValidity", unfollowed := true, recurses := true, apart := false, narrowed := true }
def RelationValidityUptoSaid : Prop := relationValidityUptoRow.holds Try.pinned (OpenSpec.upto relationValiditySpec)

end Rows
end Go.Proofs.Ytblllokpdpecbaa
