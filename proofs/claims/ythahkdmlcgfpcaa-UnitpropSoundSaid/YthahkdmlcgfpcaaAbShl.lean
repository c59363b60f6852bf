/- One shifted left by a number; bool slices. -/
import Derived.Test.YthahkdmlcgfpcaaAbConv
set_option linter.unusedSimpArgs false
set_option linter.unusedVariables false
namespace Go.Ab
open Go Go.RowKit
variable {P : Program} {g : Ghost} {δ : DS} {q : Md}
variable {ops : Array Oper} {rest : List Oper} {Q : Exit → DS → Prop} {dst : Option Nat} {ty : TypeId} {pos : String} {af : Array Edge}
theorem run_shl (t : TypeId) (x y : Operand) (m n : Int) (h0 : 0 ≤ n) (h1 : n < 64) (w : World) :
    (do eqGuard .shl t x y (.int .i64 m) (.int .i64 n); Go.binOp .shl t (.int .i64 m) (.int .i64 n) : Sem Value).run P w = .ok (.int .i64 (IntKind.i64.wrap (m * 2 ^ n.toNat))) w := by
  have h1 : (eqGuard .shl t x y (.int .i64 m) (.int .i64 n)).run P w = .ok () w := by
    unfold eqGuard
    simp [Sem.run, pure, Sem.bind, bind]
  have h2 : Go.binOp .shl t (.int .i64 m) (.int .i64 n) = .pure (.int .i64 (IntKind.i64.wrap (m * 2 ^ n.toNat))) := by
    have h3 : ¬ n < 0 := by omega
    have h4 : n.toNat < 64 := by omega
    simp [Go.binOp, Op.shift, h3, IntKind.bits, h4, Int.shiftLeft_eq]
    first | rfl | done
  simp only [Sem.run_bind, h1, Result.andThen_ok, h2]
  rfl
theorem AOps.shl {x y : Operand} {t t' : TypeId} {m n : Int} (hx : δ.ev x = litI m) (hy : δ.ev y = litI n) (ho : okT x = true) (ho' : okT y = true) (hd : okD δ.n dst = true) (h0 : 0 ≤ n ∧ n < 64)
    (hK : AOps q P g ops rest Q (δ.putd dst (litI (IntKind.i64.wrap (m * 2 ^ n.toNat))))) : AOps q P g ops (⟨dst, .binOp .shl t x y t', ty, pos, af, none⟩ :: rest) Q δ :=
  AOps.bin hx hy ho ho' (run_shl _ _ _ _ _ h0.1 h0.2) hd hK
end Go.Ab
