/- The rest of a row of statements walked once, from a weaker state. -/
import Derived.Test.YthahkdmlcgfpcaaAbStore
set_option linter.unusedSimpArgs false
set_option linter.unusedVariables false
namespace Go.Ab
open Go Go.RowKit
variable {P : Program} {g : Ghost} {δ δc : DS} {Q : Exit → DS → Prop} {c rest : Code}
theorem AW.cut (h : AW P g c (onlyN fun δ' => Weak g δ' δc) δ) (hK : AW P g rest Q δc) : AW P g (.seq c rest) Q δ := by
  refine AW.seq (AW.mono h fun e δ' h1 => ?_)
  cases e with
  | normal => exact AW.weak h1 hK
  | _ => exact h1.elim
end Go.Ab
namespace Go.Ab
open Go Go.RowKit
theorem AW.cutT {P : Program} {g : Ghost} {δ δc : DS} {Q Q' : Exit → DS → Prop} {c rest : Code} (h : AW P g c (onlyN fun δ' => Weak g δ' δc) δ) (hK : AW P g rest Q' δc) : AW P g c (thenD (AW P g rest Q') Q) δ := by
  refine AW.mono h fun e δ' h1 => ?_
  cases e with
  | normal => exact AW.weak h1 hK
  | _ => exact h1.elim
end Go.Ab
