/-
  NARROWER THAN 'FOR EVERY INPUT', by the rows' own cells (each row's printed sentence says how): SymbreakBreaking: loops · SymbreakLeaders: loops · SymbreakHomomorphism: loops.
  DERIVED. THE GIVEN ROWS OF THIS SEAT. 4 by the template 'for every input the law returns true; each argument reads behind the call as it read before'; 0 by the template 'total and deterministic' (their statements: YtcklfjkaadfjjaaTotals.lean).
  GIVEN WITH THE SEED: the statements are not yours to turn. If you find one false, say at which input.
  Laid BY PROGRAM, IN A SANDBOX (cutbox-rows.mjs): the forced cells as the released guide's own fill.sh prints them over the translation 3d12bceb5e4da632… (all of the seat's roots in one cut). By AI agents, Wed Nov 11 2026. No macro, syntax, notation, axiom, sorry.
-/
import Derived.Test.YtcklfjkaadfjjaaChecked
import GoSem.Claim
import GoSem.ClaimJoined
import GoSem.ClaimMapViews
import Derived.JoinedTies
import Derived.KernelRfl
namespace Go.Proofs.Ytcklfjkaadfjjaa
/- THE CELL 'sum', in the pinned program and in every row, IS THE sha256 OF THE DUMP (.gsa) THAT YtcklfjkaadfjjaaProg.lean LOADS. Nothing in Lean hashes anything: it is a label: what it is worth is what the hold of that sum in a sandbox is worth. -/
noncomputable def Try.pinned : Pinned := { name := "ytcklfjkaadfjjaa", sum := "3d12bceb5e4da632c76c035a34e945e895b3175776261b347c2dbea759b405fb", checked := Try.checked }
namespace Rows
def none {H : Type} : Left H := { results := [], args := [] }

/-- 'armaturelaw24.SymbreakPredicate': WHATEVER THE INPUT: true; the input reads as it did. -/
def symbreakPredicateSpec : ChangeSpec := { name := "symbreakPredicate", fn := fun _ => fun
  | [d1, d2, d3, d4] => { results := [.lit (.bool true)], args := [d1, d2, d3, d4] }
  | _ => none }
def symbreakPredicateRow : OpenClaim := { program := "ytcklfjkaadfjjaa", sum := "3d12bceb5e4da632c76c035a34e945e895b3175776261b347c2dbea759b405fb", func := "armature/armaturelaw24.SymbreakPredicate", spec := "symbreakPredicate", unfollowed := true, recurses := true, plainKeys := false, apart := false }
def SymbreakPredicateSaid : Prop := symbreakPredicateRow.holds Try.pinned (OpenSpec.ofChange symbreakPredicateSpec)

/-- ITS FALSE NEIGHBOUR: 'it returns false'. Refute it at one input. -/
def symbreakPredicateWrong : ChangeSpec := { name := "symbreakPredicate", fn := fun _ => fun
  | [d1, d2, d3, d4] => { results := [.lit (.bool false)], args := [d1, d2, d3, d4] }
  | _ => none }
def SymbreakPredicateWrongFalsely : Prop := symbreakPredicateRow.holds Try.pinned (OpenSpec.ofChange symbreakPredicateWrong)

/-- 'armaturelaw24.SymbreakBreaking': WHATEVER THE INPUT: true; the input reads as it did. -/
def symbreakBreakingSpec : ChangeSpec := { name := "symbreakBreaking", fn := fun _ => fun
  | [d1, d2] => { results := [.lit (.bool true)], args := [d1, d2] }
  | _ => none }
def symbreakBreakingRow : OpenClaim := { program := "ytcklfjkaadfjjaa", sum := "3d12bceb5e4da632c76c035a34e945e895b3175776261b347c2dbea759b405fb", func := "armature/armaturelaw24.SymbreakBreaking", spec := "symbreakBreaking", unfollowed := true, recurses := true, loops := true, plainKeys := false, apart := false }
def SymbreakBreakingSaid : Prop := symbreakBreakingRow.holds Try.pinned (OpenSpec.ofChange symbreakBreakingSpec)

/-- ITS FALSE NEIGHBOUR: 'it returns false'. Refute it at one input. -/
def symbreakBreakingWrong : ChangeSpec := { name := "symbreakBreaking", fn := fun _ => fun
  | [d1, d2] => { results := [.lit (.bool false)], args := [d1, d2] }
  | _ => none }
def SymbreakBreakingWrongFalsely : Prop := symbreakBreakingRow.holds Try.pinned (OpenSpec.ofChange symbreakBreakingWrong)

/-- 'armaturelaw24.SymbreakLeaders': WHATEVER THE INPUT: true; the input reads as it did. -/
def symbreakLeadersSpec : ChangeSpec := { name := "symbreakLeaders", fn := fun _ => fun
  | [d1, d2] => { results := [.lit (.bool true)], args := [d1, d2] }
  | _ => none }
def symbreakLeadersRow : OpenClaim := { program := "ytcklfjkaadfjjaa", sum := "3d12bceb5e4da632c76c035a34e945e895b3175776261b347c2dbea759b405fb", func := "armature/armaturelaw24.SymbreakLeaders", spec := "symbreakLeaders", unfollowed := true, recurses := true, loops := true, plainKeys := false, apart := false }
def SymbreakLeadersSaid : Prop := symbreakLeadersRow.holds Try.pinned (OpenSpec.ofChange symbreakLeadersSpec)

/-- ITS FALSE NEIGHBOUR: 'it returns false'. Refute it at one input. -/
def symbreakLeadersWrong : ChangeSpec := { name := "symbreakLeaders", fn := fun _ => fun
  | [d1, d2] => { results := [.lit (.bool false)], args := [d1, d2] }
  | _ => none }
def SymbreakLeadersWrongFalsely : Prop := symbreakLeadersRow.holds Try.pinned (OpenSpec.ofChange symbreakLeadersWrong)

/-- 'armaturelaw24.SymbreakHomomorphism': WHATEVER THE INPUT: true; the input reads as it did. -/
def symbreakHomomorphismSpec : ChangeSpec := { name := "symbreakHomomorphism", fn := fun _ => fun
  | [d] => { results := [.lit (.bool true)], args := [d] }
  | _ => none }
def symbreakHomomorphismRow : OpenClaim := { program := "ytcklfjkaadfjjaa", sum := "3d12bceb5e4da632c76c035a34e945e895b3175776261b347c2dbea759b405fb", func := "armature/armaturelaw24.SymbreakHomomorphism", spec := "symbreakHomomorphism", unfollowed := true, recurses := true, loops := true, plainKeys := false, apart := false }
def SymbreakHomomorphismSaid : Prop := symbreakHomomorphismRow.holds Try.pinned (OpenSpec.ofChange symbreakHomomorphismSpec)

/-- ITS FALSE NEIGHBOUR: 'it returns false'. Refute it at one input. -/
def symbreakHomomorphismWrong : ChangeSpec := { name := "symbreakHomomorphism", fn := fun _ => fun
  | [d] => { results := [.lit (.bool false)], args := [d] }
  | _ => none }
def SymbreakHomomorphismWrongFalsely : Prop := symbreakHomomorphismRow.holds Try.pinned (OpenSpec.ofChange symbreakHomomorphismWrong)

/- THE SECOND FORM. 'bulk': how many values and letters a reading holds, each counted each time it is reached (what is shared counts as often as it is met; a slice's spare places count too). A statement '..UptoSaid' is the law's where the arguments, and the package variables that the reading takes, are together of bulk at most 1048576: NARROWER than '..Said'. Prove '..Said' where nothing that the law and all that it calls make is longer than what came in: it says more and counts as full. Else prove '..UptoSaid'. A law counts once. -/
mutual
def uptoBulk {H : Type} : DataW H → Nat
  | .lit (.string bytes) => bytes.length + 1
  | .lit _ => 1
  | .nil => 1
  | .ptr d => uptoBulk d + 1
  | .slice elems spare => uptoBulkAll elems + uptoBulkAll spare + 1
  | .agg parts => uptoBulkAll parts + 1
  | .iface _ d => uptoBulk d + 1
  | .map entries => uptoBulkEntries entries + 1
  | .held _ => 1
def uptoBulkAll {H : Type} : List (DataW H) → Nat
  | [] => 0
  | d :: r => uptoBulk d + uptoBulkAll r
def uptoBulkEntries {H : Type} : List (Lit × DataW H) → Nat
  | [] => 0
  | x :: r => uptoBulkEntry x + uptoBulkEntries r
def uptoBulkEntry {H : Type} : Lit × DataW H → Nat
  | (.string bytes, d) => bytes.length + uptoBulk d + 1
  | (_, d) => uptoBulk d + 1
 end
def uptoSmall : (H : Type) → List (DataW H) → Bool := fun _ ds => decide (uptoBulkAll ds ≤ 1048576)
def OpenSpec.upto (s : _root_.Go.ChangeSpec) : _root_.Go.OpenSpec := { _root_.Go.OpenSpec.ofChange s with cond := some uptoSmall }

/-- 'armaturelaw24.SymbreakPredicate', WHERE WHAT IT READS IS OF BULK AT MOST 1048576: true; the input reads as it did. -/
def symbreakPredicateUptoRow : OpenClaim := { program := "ytcklfjkaadfjjaa", sum := "3d12bceb5e4da632c76c035a34e945e895b3175776261b347c2dbea759b405fb", func := "armature/armaturelaw24.SymbreakPredicate", spec := "symbreakPredicate", unfollowed := true, recurses := true, plainKeys := false, apart := false, narrowed := true }
def SymbreakPredicateUptoSaid : Prop := symbreakPredicateUptoRow.holds Try.pinned (OpenSpec.upto symbreakPredicateSpec)

/-- 'armaturelaw24.SymbreakBreaking', WHERE WHAT IT READS IS OF BULK AT MOST 1048576: true; the input reads as it did. -/
def symbreakBreakingUptoRow : OpenClaim := { program := "ytcklfjkaadfjjaa", sum := "3d12bceb5e4da632c76c035a34e945e895b3175776261b347c2dbea759b405fb", func := "armature/armaturelaw24.SymbreakBreaking", spec := "symbreakBreaking", unfollowed := true, recurses := true, loops := true, plainKeys := false, apart := false, narrowed := true }
def SymbreakBreakingUptoSaid : Prop := symbreakBreakingUptoRow.holds Try.pinned (OpenSpec.upto symbreakBreakingSpec)

/-- 'armaturelaw24.SymbreakLeaders', WHERE WHAT IT READS IS OF BULK AT MOST 1048576: true; the input reads as it did. -/
def symbreakLeadersUptoRow : OpenClaim := { program := "ytcklfjkaadfjjaa", sum := "3d12bceb5e4da632c76c035a34e945e895b3175776261b347c2dbea759b405fb", func := "armature/armaturelaw24.SymbreakLeaders", spec := "symbreakLeaders", unfollowed := true, recurses := true, loops := true, plainKeys := false, apart := false, narrowed := true }
def SymbreakLeadersUptoSaid : Prop := symbreakLeadersUptoRow.holds Try.pinned (OpenSpec.upto symbreakLeadersSpec)

/-- 'armaturelaw24.SymbreakHomomorphism', WHERE WHAT IT READS IS OF BULK AT MOST 1048576: true; the input reads as it did. -/
def symbreakHomomorphismUptoRow : OpenClaim := { program := "ytcklfjkaadfjjaa", sum := "3d12bceb5e4da632c76c035a34e945e895b3175776261b347c2dbea759b405fb", func := "armature/armaturelaw24.SymbreakHomomorphism", spec := "symbreakHomomorphism", unfollowed := true, recurses := true, loops := true, plainKeys := false, apart := false, narrowed := true }
def SymbreakHomomorphismUptoSaid : Prop := symbreakHomomorphismUptoRow.holds Try.pinned (OpenSpec.upto symbreakHomomorphismSpec)

end Rows
end Go.Proofs.Ytcklfjkaadfjjaa
