/- Small laws for the walk: what stands behind a step. -/
import Derived.Test.YthahkdmlcgfpcaaAbWeak
set_option linter.unusedSimpArgs false
set_option linter.unusedVariables false
namespace Go.Ab
open Go Go.RowKit
variable {P : Program} {g : Ghost} {δ : DS} {ops : Array Oper} {rest : List Oper} {Q : Exit → DS → Prop} {next : DS → Prop} {dst : Option Nat} {ty : TypeId} {pos : String} {af : Array Edge}

theorem thenD_n (h : next δ) : thenD next Q .normal δ := h
theorem thenD_exit {id : Nat} (h : Q (.exit id) δ) : thenD next Q (.exit id) δ := h
theorem thenD_ret (h : Q .ret δ) : thenD next Q .ret δ := h
theorem inBlockD_n {id : Nat} (h : Q .normal δ) : inBlockD id Q .normal δ := h
theorem inBlockD_ret {id : Nat} (h : Q .ret δ) : inBlockD id Q .ret δ := h
theorem inBlockD_exit {id : Nat} (h : Q .normal δ) : inBlockD id Q (.exit id) δ := by show (if id = id then _ else _); rw [if_pos rfl]; exact h
theorem inBlockD_other {id id' : Nat} (hne : (Nat.beq id' id) = false) (h : Q (.exit id') δ) : inBlockD id Q (.exit id') δ := by
  show (if id' = id then _ else _); rw [if_neg (by intro e; subst e; simp at hne)]; exact h
theorem ends_ret {rs : List ResultVar} {r v : AV} (h : Res P δ rs v) (hl : Le true v r) : Ends P rs r .ret δ := ⟨v, h, hl⟩
theorem ends_n {rs : List ResultVar} {r v : AV} (h : Res P δ rs v) (hl : Le true v r) : Ends P rs r .normal δ := ⟨v, h, hl⟩
theorem Le.of_eq {ow : Bool} {p q : PV} (h : p = q) : Le ow (.pv p) (.pv q) := h ▸ .pv p
theorem Le.ownE {i e k} {els els' : List (List PV)} (h : els = els') : Le true (.own i e k els) (.pv (.slice k els')) := h ▸ .own _ _ _ _ rfl
theorem Le.pvE {ow : Bool} {k} {els els' : List (List PV)} (h : els = els') : Le ow (.pv (.slice k els)) (.pv (.slice k els')) := h ▸ .pv _
theorem Le.litB {ow : Bool} {p q : Bool} (h : p = q) : Le ow (litB p) (litB q) := h ▸ .pv _
theorem Le.litI {ow : Bool} {p q : Int} (h : p = q) : Le ow (litI p) (litI q) := h ▸ .pv _
theorem AW.condD {c : Operand} {x y : Code} {p : Prop} {_ : Decidable p} (ho : okT c = true) (hc : δ.ev c = litB (decide p)) (h1 : p → AW P g x Q δ) (h2 : ¬ p → AW P g y Q δ) : AW P g (.cond c x y) Q δ :=
  AW.cond ho hc (fun h => h1 (of_decide_eq_true h)) (fun h => h2 (of_decide_eq_false h))
theorem AW.condT {c : Operand} {x y : Code} {t : Bool} (ht : t = true) (ho : okT c = true) (hc : δ.ev c = litB t) (h1 : AW P g x Q δ) : AW P g (.cond c x y) Q δ :=
  AW.cond ho hc (fun _ => h1) (fun h => by rw [ht] at h; cases h)
theorem AW.condF {c : Operand} {x y : Code} {t : Bool} (ht : t = false) (ho : okT c = true) (hc : δ.ev c = litB t) (h1 : AW P g y Q δ) : AW P g (.cond c x y) Q δ :=
  AW.cond ho hc (fun h => by rw [ht] at h; cases h) (fun _ => h1)

def encI (x : Int) : List PV := [.lit (.int .i64 x)]
def encB (x : Bool) : List PV := [.lit (.bool x)]
abbrev ints (l : List Int) : PV := .slice 1 (l.map encI)
abbrev bools (l : List Bool) : PV := .slice 1 (l.map encB)
abbrev intss (l : List (List Int)) : PV := .slice 1 (l.map fun c => [ints c])
end Go.Ab
