/- A number turned into an int. -/
import Derived.Test.YthahkdmlcgfpcaaAbAll
set_option linter.unusedSimpArgs false
set_option linter.unusedVariables false
namespace Go.Ab
open Go Go.RowKit
variable {P : Program} {g : Ghost} {δ : DS} {q : Md}
variable {ops : Array Oper} {rest : List Oper} {Q : Exit → DS → Prop} {dst : Option Nat} {ty : TypeId} {pos : String} {af : Array Edge}
theorem AOps.convI {x : Operand} {s t : TypeId} {ks : IntKind} {d : TypeDesc} {m : Int} (hx : δ.ev x = .pv (.lit (.int ks m))) (hs : P.underlying s = some d) (ht : P.underlying t = some (.int .i64)) (ho : okT x = true) (hd : okD δ.n dst = true)
    (hb : -9223372036854775808 ≤ m ∧ m ≤ 9223372036854775807) (hK : AOps q P g ops rest Q (δ.putd dst (litI m))) : AOps q P g ops (⟨dst, .convert s t x, ty, pos, af, none⟩ :: rest) Q δ :=
  AOps.conv hx hs ht ho hd (by rw [IntWalk.i64_in _ hb]; exact hK)
end Go.Ab
