/- Ranging over a function: the loop's code behind names. -/
import Derived.Test.YthahkdmlcgfpcaaAbMap
set_option linter.unusedSimpArgs false
set_option linter.unusedVariables false
namespace Go.Ab
open Go Go.RowKit
attribute [local irreducible] HS
variable {P : Program} {g : Ghost} {δ : DS} {κ : Nat → Option Nat} {a : Act} {w : World}
variable {ops : Array Oper} {rest : List Oper} {Q : Exit → DS → Prop} {dst : Option Nat} {ty : TypeId} {pos : String} {af : Array Edge}

/-- the code of a loop, by name. -/
def LpCode (ps' : Array Tmp) (asg' body' : Code) (ps : List Tmp) (asg body : Code) : Prop := ps' = ps.toArray ∧ asg' = asg ∧ body' = body

theorem AW.rangeFuncH {x : Operand} {ps : List Tmp} {asg body : Code} {f : FuncId} {first cap : List AV} {fn : Func} {c : Code} {n' : Nat} (hro : g.ro = none) (hwt : g.wt = none) (hx : δ.ev x = .clo (.func f) first cap) (ho : okT x = true)
    (hf : P.funcs[f]? = some fn) (hb : fn.body = some c) (hres : fn.results = #[]) (hn : fn.ntmps = n') (hle : Nat.ble (first.length + 1 + cap.length) n' = true) (hnH : Nat.ble n' HS = true) (hown : Nat.ble δ.n HS = true) (he : (fn.name == "runtime.NumGoroutine") = false)
    (h : ∀ (g' : Ghost) (tm : Array Value) (l : Nat) (ps' : Array Tmp) (asg' body' : Code), LpCode ps' asg' body' ps asg body → g'.ro = none → g'.wt = none → (∀ j, j < HS → g'.held (j + HS) = tm.getD j undef) → tm.size = δ.n →
      AW P g' c (iterEnds δ.n δ.nx l Q) { n := n', env := enum 0 (first ++ .yld δ.nx :: cap) ++ shiftE δ.env, objs := (δ.nx, some (.loop l tm ps' asg' body' .ready)) :: δ.objs, nx := δ.nx + 1 }) :
    AW P g (.rangeFunc x ps.toArray asg body) Q δ :=
  AW.rangeFunc hro hwt hx ho hf hb hres hn hle hnH hown he fun g' tm l h1 h2 h3 h4 => h g' tm l _ _ _ ⟨rfl, rfl, rfl⟩ h1 h2 h3 h4

theorem AOps.yieldH {x : Operand} {ys : List Operand} {tys : Array TypeId} {i l n0 : Nat} {tm : Array Value} {ps : List Tmp} {asg body : Code} {ps' : Array Tmp} {asg' body' : Code} (hcode : LpCode ps' asg' body' ps asg body) (hro : g.ro = none) (hwt : g.wt = none) (hheld : ∀ j, j < HS → g.held (j + HS) = tm.getD j undef) (htm : tm.size = n0)
    (hn0 : Nat.ble n0 HS = true)
    (hx : δ.ev x = .yld i) (hob : δ.ob i = some (.loop l tm ps' asg' body' .ready)) (ho : okT x = true) (hys : ys.all okT = true) (hlen : Nat.beq ys.length ps.length = true) (hps : ps.all (fun t => Nat.blt t n0) = true) (hd' : okD δ.n dst = true)
    (h : ∀ g' : Ghost, g'.ro = some l → g'.wt = none → AW P g' asg (thenD (fun δ1 => isLp δ1 i l .ready ∧ AW P g' body (roundEnds δ.n i l (fun b st δ2 => AOps .plain P g ops rest Q ((δ2.lpSt i st).putd dst (litB b)))) (δ1.lpSt i .busy)) (fun _ _ => False)) (roundD n0 ps (ys.map δ.ev) δ)) :
    AOps .plain P g ops (⟨dst, .call { callee := .value x, args := ys.toArray, argTypes := tys }, ty, pos, af, none⟩ :: rest) Q δ := by
  obtain ⟨rfl, rfl, rfl⟩ := hcode
  exact AOps.yield hro hwt hheld htm hn0 hx hob ho hys hlen hps hd' h

theorem roundEnds_n {n i l : Nat} {K : Bool → LpSt → DS → Prop} (h1 : isLp δ i l .busy) (h2 : K true .ready (roundBack n δ)) : roundEnds n i l K .normal δ := ⟨h1, h2⟩
theorem roundEnds_r {n i l : Nat} {K : Bool → LpSt → DS → Prop} (h1 : isLp δ i l .busy) (h2 : K false (.done .ret) (roundBack n δ)) : roundEnds n i l K .ret δ := ⟨h1, h2⟩
theorem roundEnds_x {n i l id : Nat} {K : Bool → LpSt → DS → Prop} (h1 : isLp δ i l .busy) (h2 : K false (.done (.exit id)) (roundBack n δ)) : roundEnds n i l K (.exit id) δ := ⟨h1, h2⟩
/-- behind the loop, as the pending jump says. -/
theorem iterEnds_ready {n i l : Nat} {tm ps asg body} {e : Exit} (he : e = .normal ∨ e = .ret) (ho : δ.ob i = some (.loop l tm ps asg body .ready)) (h : Q .normal (backD n i δ)) : iterEnds n i l Q e δ := by
  rcases he with rfl | rfl <;> (show jumpD l Q (backD n i δ) (δ.ob i); rw [ho]; exact ⟨rfl, h⟩)
theorem iterEnds_exit {n i l id : Nat} {tm ps asg body} {e : Exit} (he : e = .normal ∨ e = .ret) (ho : δ.ob i = some (.loop l tm ps asg body (.done (.exit id)))) (h : Q (.exit id) (backD n i δ)) : iterEnds n i l Q e δ := by
  rcases he with rfl | rfl <;> (show jumpD l Q (backD n i δ) (δ.ob i); rw [ho]; exact ⟨rfl, h⟩)
theorem iterEnds_ret {n i l : Nat} {tm ps asg body} {e : Exit} (he : e = .normal ∨ e = .ret) (ho : δ.ob i = some (.loop l tm ps asg body (.done .ret))) (h : Q .ret (backD n i δ)) : iterEnds n i l Q e δ := by
  rcases he with rfl | rfl <;> (show jumpD l Q (backD n i δ) (δ.ob i); rw [ho]; exact ⟨rfl, h⟩)
end Go.Ab
