/- Laws in the forms that the walk's list of steps tries. -/
import Derived.Test.YthahkdmlcgfpcaaAbMem5
set_option linter.unusedSimpArgs false
set_option linter.unusedVariables false
namespace Go.Ab
open Go Go.RowKit
variable {q : Md} {P : Program} {g : Ghost} {δ : DS} {κ : Nat → Option Nat} {a : Act} {w : World}
variable {ops : Array Oper} {rest : List Oper} {Q : Exit → DS → Prop} {dst : Option Nat} {ty : TypeId} {pos : String} {af : Array Edge}

theorem AOps.guardT {op : Op} {gj d : Nat} {p : Prop} {_ : Decidable p} {o' : Oper} (ho : ops[gj]? = some o') (hd : o'.dst = some d) (hd0 : Nat.blt d HS = true) (hdn : Nat.blt d δ.n = true) (hb : δ.get d = litB (decide p)) (hdd : okD δ.n dst = true)
    (hy : p → AOps q P g ops (⟨dst, op, ty, pos, af, none⟩ :: rest) Q δ) (hn : ¬ p → AOps q P g ops rest Q (δ.putd dst (.pv (.lit undef)))) : AOps q P g ops (⟨dst, op, ty, pos, af, some (gj, true)⟩ :: rest) Q δ :=
  AOps.guard ho hd hd0 hdn hb hdd (fun h => hy (of_decide_eq_true h)) (fun h => hn (of_decide_eq_false h))
theorem AOps.guardF {op : Op} {gj d : Nat} {p : Prop} {_ : Decidable p} {o' : Oper} (ho : ops[gj]? = some o') (hd : o'.dst = some d) (hd0 : Nat.blt d HS = true) (hdn : Nat.blt d δ.n = true) (hb : δ.get d = litB (decide p)) (hdd : okD δ.n dst = true)
    (hy : ¬ p → AOps q P g ops (⟨dst, op, ty, pos, af, none⟩ :: rest) Q δ) (hn : p → AOps q P g ops rest Q (δ.putd dst (.pv (.lit undef)))) : AOps q P g ops (⟨dst, op, ty, pos, af, some (gj, false)⟩ :: rest) Q δ :=
  AOps.guard ho hd hd0 hdn hb hdd (fun h => hy (of_decide_eq_false h)) (fun h => hn (of_decide_eq_true h))
theorem AOps.notD {x : Operand} {t : TypeId} {p : Prop} {_ : Decidable p} (hx : δ.ev x = litB (decide p)) (ho : okT x = true) (hd : okD δ.n dst = true) (hK : AOps q P g ops rest Q (δ.putd dst (litB (decide (¬ p))))) :
    AOps q P g ops (⟨dst, .unOp .not t x, ty, pos, af, none⟩ :: rest) Q δ := AOps.not hx ho hd (by have : (!decide p) = decide (¬ p) := by simp
                                                                                                   rw [this]; exact hK)
theorem AOps.pickT {x y z : Operand} {p : Prop} {_ : Decidable p} {v : AV} (hx : δ.ev x = litB (decide p)) (hy : δ.ev y = v) (hp : p) (ho : okT x = true) (hoy : okT y = true) (hoz : okT z = true) (hd : okD δ.n dst = true)
    (hK : AOps q P g ops rest Q (δ.putd dst v)) : AOps q P g ops (⟨dst, .pick x y z, ty, pos, af, none⟩ :: rest) Q δ :=
  AOps.pick hx ho hoy hoz (fun _ => hy) (fun h => absurd hp (of_decide_eq_false h)) hd hK
theorem AOps.pickF {x y z : Operand} {p : Prop} {_ : Decidable p} {v : AV} (hx : δ.ev x = litB (decide p)) (hz : δ.ev z = v) (hp : ¬ p) (ho : okT x = true) (hoy : okT y = true) (hoz : okT z = true) (hd : okD δ.n dst = true)
    (hK : AOps q P g ops rest Q (δ.putd dst v)) : AOps q P g ops (⟨dst, .pick x y z, ty, pos, af, none⟩ :: rest) Q δ :=
  AOps.pick hx ho hoy hoz (fun h => absurd (of_decide_eq_true h) hp) (fun _ => hz) hd hK
theorem AW.condb {c : Operand} {x y : Code} {b : Bool} (ho : okT c = true) (hc : δ.ev c = .pv (.lit (.bool b))) (hb : b = true) (h1 : AW P g x Q δ) : AW P g (.cond c x y) Q δ :=
  AW.condT hb ho hc h1
theorem AW.cond_lt {c : Operand} {x y : Code} (ho : okT c = true) (hc : δ.ev c = litB true) (h1 : AW P g x Q δ) : AW P g (.cond c x y) Q δ := AW.condT rfl ho hc h1
theorem AW.cond_lf {c : Operand} {x y : Code} (ho : okT c = true) (hc : δ.ev c = litB false) (h1 : AW P g y Q δ) : AW P g (.cond c x y) Q δ := AW.condF rfl ho hc h1
theorem AOps.guard_lt {op : Op} {gj d : Nat} {want b : Bool} {o' : Oper} (ho : ops[gj]? = some o') (hd : o'.dst = some d) (hd0 : Nat.blt d HS = true) (hdn : Nat.blt d δ.n = true) (hb : δ.get d = litB b) (hbw : b = want) (hdd : okD δ.n dst = true)
    (hy : AOps q P g ops (⟨dst, op, ty, pos, af, none⟩ :: rest) Q δ) : AOps q P g ops (⟨dst, op, ty, pos, af, some (gj, want)⟩ :: rest) Q δ :=
  AOps.guard ho hd hd0 hdn hb hdd (fun _ => hy) (fun h => by subst hbw; cases b <;> simp at h)
theorem AOps.guard_lf {op : Op} {gj d : Nat} {want b : Bool} {o' : Oper} (ho : ops[gj]? = some o') (hd : o'.dst = some d) (hd0 : Nat.blt d HS = true) (hdn : Nat.blt d δ.n = true) (hb : δ.get d = litB b) (hbw : b = !want) (hdd : okD δ.n dst = true)
    (hn : AOps q P g ops rest Q (δ.putd dst (.pv (.lit undef)))) : AOps q P g ops (⟨dst, op, ty, pos, af, some (gj, want)⟩ :: rest) Q δ :=
  AOps.guard ho hd hd0 hdn hb hdd (fun h => by subst h; cases b <;> simp at hbw) (fun _ => hn)
theorem AOps.guard_any {op : Op} {gj d : Nat} {want b : Bool} {o' : Oper} (ho : ops[gj]? = some o') (hd : o'.dst = some d) (hd0 : Nat.blt d HS = true) (hdn : Nat.blt d δ.n = true) (hb : δ.get d = litB b) (hdd : okD δ.n dst = true)
    (hy : b = want → AOps q P g ops (⟨dst, op, ty, pos, af, none⟩ :: rest) Q δ) (hn : b = !want → AOps q P g ops rest Q (δ.putd dst (.pv (.lit undef)))) : AOps q P g ops (⟨dst, op, ty, pos, af, some (gj, want)⟩ :: rest) Q δ :=
  AOps.guard ho hd hd0 hdn hb hdd hy hn
end Go.Ab
namespace Go.Ab
variable {P : Program} {g : Ghost} {δ : DS} {Q : Exit → DS → Prop}
theorem AW.condY {c : Operand} {x y : Code} {p : Prop} {_ : Decidable p} (ho : okT c = true) (hc : δ.ev c = litB (decide p)) (hp : p) (h1 : AW P g x Q δ) : AW P g (.cond c x y) Q δ := AW.condT (decide_eq_true hp) ho hc h1
theorem AW.condN {c : Operand} {x y : Code} {p : Prop} {_ : Decidable p} (ho : okT c = true) (hc : δ.ev c = litB (decide p)) (hp : ¬ p) (h1 : AW P g y Q δ) : AW P g (.cond c x y) Q δ := AW.condF (decide_eq_false hp) ho hc h1
end Go.Ab
namespace Go.Ab
section
variable {q : Md} {P : Program} {g : Ghost} {δ : DS} {ops : Array Oper} {rest : List Oper} {Q : Exit → DS → Prop} {dst : Option Nat} {ty : TypeId} {pos : String} {af : Array Edge}
variable {op : Op} {gj d : Nat} {p : Prop} {inst : Decidable p} {o' : Oper} (ho : ops[gj]? = some o') (hd : o'.dst = some d) (hb : δ.get d = litB (@decide p inst)) (hd0 : Nat.blt d HS = true) (hdn : Nat.blt d δ.n = true)  (hdd : okD δ.n dst = true)
include ho hd hb hd0 hdn hdd
theorem AOps.guardTy (hp : p) (hy : AOps q P g ops (⟨dst, op, ty, pos, af, none⟩ :: rest) Q δ) : AOps q P g ops (⟨dst, op, ty, pos, af, some (gj, true)⟩ :: rest) Q δ :=
  AOps.guard ho hd hd0 hdn hb hdd (fun _ => hy) (fun h => absurd hp (of_decide_eq_false h))
theorem AOps.guardTn (hp : ¬ p) (hn : AOps q P g ops rest Q (δ.putd dst (.pv (.lit undef)))) : AOps q P g ops (⟨dst, op, ty, pos, af, some (gj, true)⟩ :: rest) Q δ :=
  AOps.guard ho hd hd0 hdn hb hdd (fun h => absurd (of_decide_eq_true h) hp) (fun _ => hn)
theorem AOps.guardFy (hp : ¬ p) (hy : AOps q P g ops (⟨dst, op, ty, pos, af, none⟩ :: rest) Q δ) : AOps q P g ops (⟨dst, op, ty, pos, af, some (gj, false)⟩ :: rest) Q δ :=
  AOps.guard ho hd hd0 hdn hb hdd (fun _ => hy) (fun h => absurd (of_decide_eq_true h) hp)
theorem AOps.guardFn (hp : p) (hn : AOps q P g ops rest Q (δ.putd dst (.pv (.lit undef)))) : AOps q P g ops (⟨dst, op, ty, pos, af, some (gj, false)⟩ :: rest) Q δ :=
  AOps.guard ho hd hd0 hdn hb hdd (fun h => absurd hp (of_decide_eq_false h)) (fun _ => hn)
end
end Go.Ab
namespace Go.Ab
section
variable {q : Md} {P : Program} {g : Ghost} {δ : DS} {ops : Array Oper} {rest : List Oper} {Q : Exit → DS → Prop} {dst : Option Nat} {ty : TypeId} {pos : String} {af : Array Edge} {x : Operand}
theorem AOps.move_pv {p : PV} (hx : δ.ev x = .pv p) (ho : okT x = true) (hd : okD δ.n dst = true) (hK : AOps q P g ops rest Q (δ.putd dst (.pv p))) : AOps q P g ops (⟨dst, .move x, ty, pos, af, none⟩ :: rest) Q δ := AOps.move hx ho hd hK
theorem AOps.assign_pv {p : PV} (hx : δ.ev x = .pv p) (ho : okT x = true) (hd : okD δ.n dst = true) (hK : AOps q P g ops rest Q (δ.putd dst (.pv p))) : AOps q P g ops (⟨dst, .assign x, ty, pos, af, none⟩ :: rest) Q δ := AOps.assign hx ho hd hK
theorem AOps.move_own {i e k els} (hx : δ.ev x = .own i e k els) (ho : okT x = true) (hd : okD δ.n dst = true) (hK : AOps q P g ops rest Q (δ.putd dst (.own i e k els))) : AOps q P g ops (⟨dst, .move x, ty, pos, af, none⟩ :: rest) Q δ := AOps.move hx ho hd hK
theorem AOps.assign_own {i e k els} (hx : δ.ev x = .own i e k els) (ho : okT x = true) (hd : okD δ.n dst = true) (hK : AOps q P g ops rest Q (δ.putd dst (.own i e k els))) : AOps q P g ops (⟨dst, .assign x, ty, pos, af, none⟩ :: rest) Q δ := AOps.assign hx ho hd hK
theorem AOps.move_ptr {i o} (hx : δ.ev x = .ptr i o) (ho : okT x = true) (hd : okD δ.n dst = true) (hK : AOps q P g ops rest Q (δ.putd dst (.ptr i o))) : AOps q P g ops (⟨dst, .move x, ty, pos, af, none⟩ :: rest) Q δ := AOps.move hx ho hd hK
theorem AOps.assign_ptr {i o} (hx : δ.ev x = .ptr i o) (ho : okT x = true) (hd : okD δ.n dst = true) (hK : AOps q P g ops rest Q (δ.putd dst (.ptr i o))) : AOps q P g ops (⟨dst, .assign x, ty, pos, af, none⟩ :: rest) Q δ := AOps.assign hx ho hd hK
theorem AOps.move_tup {l} (hx : δ.ev x = .tup l) (ho : okT x = true) (hd : okD δ.n dst = true) (hK : AOps q P g ops rest Q (δ.putd dst (.tup l))) : AOps q P g ops (⟨dst, .move x, ty, pos, af, none⟩ :: rest) Q δ := AOps.move hx ho hd hK
theorem AOps.move_agg {l} (hx : δ.ev x = .agg l) (ho : okT x = true) (hd : okD δ.n dst = true) (hK : AOps q P g ops rest Q (δ.putd dst (.agg l))) : AOps q P g ops (⟨dst, .move x, ty, pos, af, none⟩ :: rest) Q δ := AOps.move hx ho hd hK
end
end Go.Ab
namespace Go.Ab
section
variable {q : Md} {P : Program} {g : Ghost} {δ : DS} {ops : Array Oper} {rest : List Oper} {Q : Exit → DS → Prop} {dst : Option Nat} {ty : TypeId} {pos : String} {af : Array Edge}
theorem AOps.pick_lt {x y z : Operand} {v : PV} (hx : δ.ev x = litB true) (hy : δ.ev y = .pv v) (ho : okT x = true) (hoy : okT y = true) (hoz : okT z = true) (hd : okD δ.n dst = true)
    (hK : AOps q P g ops rest Q (δ.putd dst (.pv v))) : AOps q P g ops (⟨dst, .pick x y z, ty, pos, af, none⟩ :: rest) Q δ := AOps.pick hx ho hoy hoz (fun _ => hy) (fun h => by cases h) hd hK
theorem AOps.pick_lf {x y z : Operand} {v : PV} (hx : δ.ev x = litB false) (hz : δ.ev z = .pv v) (ho : okT x = true) (hoy : okT y = true) (hoz : okT z = true) (hd : okD δ.n dst = true)
    (hK : AOps q P g ops rest Q (δ.putd dst (.pv v))) : AOps q P g ops (⟨dst, .pick x y z, ty, pos, af, none⟩ :: rest) Q δ := AOps.pick hx ho hoy hoz (fun h => by cases h) (fun _ => hz) hd hK
theorem AOps.pickT_pv {x y z : Operand} {p : Prop} {_ : Decidable p} {v : PV} (hx : δ.ev x = litB (decide p)) (hy : δ.ev y = .pv v) (hp : p) (ho : okT x = true) (hoy : okT y = true) (hoz : okT z = true) (hd : okD δ.n dst = true)
    (hK : AOps q P g ops rest Q (δ.putd dst (.pv v))) : AOps q P g ops (⟨dst, .pick x y z, ty, pos, af, none⟩ :: rest) Q δ := AOps.pickT hx hy hp ho hoy hoz hd hK
theorem AOps.pickF_pv {x y z : Operand} {p : Prop} {_ : Decidable p} {v : PV} (hx : δ.ev x = litB (decide p)) (hz : δ.ev z = .pv v) (hp : ¬ p) (ho : okT x = true) (hoy : okT y = true) (hoz : okT z = true) (hd : okD δ.n dst = true)
    (hK : AOps q P g ops rest Q (δ.putd dst (.pv v))) : AOps q P g ops (⟨dst, .pick x y z, ty, pos, af, none⟩ :: rest) Q δ := AOps.pickF hx hz hp ho hoy hoz hd hK
end
end Go.Ab
namespace Go.Ab
section
variable {P : Program} {g : Ghost} {δ : DS} {ops : Array Oper} {rest : List Oper} {Q : Exit → DS → Prop} {dst : Option Nat} {ty : TypeId} {pos : String} {af : Array Edge}
theorem Eff.bs0 {gd : Option (Tmp × Bool)} {t e : TypeId} {z : Value}  (ht : P.underlying t = some (.slice e))  (hi : (P.info? e).map (fun i => (i.size, i.zero)) = some (1, some z)) (hz : z.cells.toList.all (·.oneCell') = true) (hzk : Nat.beq z.cells.size 1 = true)   (hd : okD δ.n dst = true) : Eff P g ⟨dst, .buildSlice t 0 [].toArray, ty, pos, af, gd⟩ δ ((δ.addOb .row).putd dst (.own δ.nx e 1 [])) := by
  have hf : fillA (fun i => some (i * 1, 1)) (zerosA z (0 * 1)) (([] : List (Nat × Operand)).map fun p => (p.1, δ.ev p.2)) = some [] := by
    simp [fillA, setsA, AV.cellsOf, AV.ones, zerosA, List.map_cons, List.map_nil] <;> rfl
  exact Eff.buildSlice (len := 0) (k := 1) (parts := []) (cells := []) ht hi hzk rfl rfl hz (by simp []) hf (by simp [AV.isPv]) hd
theorem AOps.bs0 {t e : TypeId} {z : Value}  (ht : P.underlying t = some (.slice e))  (hi : (P.info? e).map (fun i => (i.size, i.zero)) = some (1, some z)) (hz : z.cells.toList.all (·.oneCell') = true) (hzk : Nat.beq z.cells.size 1 = true)   (hd : okD δ.n dst = true) (hK : AOps .plain P g ops rest Q ((δ.addOb .row).putd dst (.own δ.nx e 1 []))) : AOps .plain P g ops (⟨dst, .buildSlice t 0 [].toArray, ty, pos, af, none⟩ :: rest) Q δ := AOps.eff rfl rfl (Eff.bs0 ht  hi hz hzk   hd) hK
theorem Eff.bs1 {gd : Option (Tmp × Bool)} {t e : TypeId} {z : Value} {x0 : Operand} {p0 : PV} (ht : P.underlying t = some (.slice e)) (h0 : δ.ev x0 = .pv p0) (hi : (P.info? e).map (fun i => (i.size, i.zero)) = some (1, some z)) (hz : z.cells.toList.all (·.oneCell') = true) (hzk : Nat.beq z.cells.size 1 = true) (k0 : AV.one (.pv p0) = true) (o0 : okT x0 = true) (hd : okD δ.n dst = true) : Eff P g ⟨dst, .buildSlice t 1 [(0, x0)].toArray, ty, pos, af, gd⟩ δ ((δ.addOb .row).putd dst (.own δ.nx e 1 [[p0]])) := by
  have hf : fillA (fun i => some (i * 1, 1)) (zerosA z (1 * 1)) (([(0, x0)] : List (Nat × Operand)).map fun p => (p.1, δ.ev p.2)) = some [.pv p0] := by
    simp [fillA, setsA, AV.cellsOf, AV.ones, zerosA, h0, k0, List.map_cons, List.map_nil] <;> rfl
  exact Eff.buildSlice (len := 1) (k := 1) (parts := [(0, x0)]) (cells := [.pv p0]) ht hi hzk rfl rfl hz (by simp [o0]) hf (by simp [AV.isPv]) hd
theorem AOps.bs1 {t e : TypeId} {z : Value} {x0 : Operand} {p0 : PV} (ht : P.underlying t = some (.slice e)) (h0 : δ.ev x0 = .pv p0) (hi : (P.info? e).map (fun i => (i.size, i.zero)) = some (1, some z)) (hz : z.cells.toList.all (·.oneCell') = true) (hzk : Nat.beq z.cells.size 1 = true) (k0 : AV.one (.pv p0) = true) (o0 : okT x0 = true) (hd : okD δ.n dst = true) (hK : AOps .plain P g ops rest Q ((δ.addOb .row).putd dst (.own δ.nx e 1 [[p0]]))) : AOps .plain P g ops (⟨dst, .buildSlice t 1 [(0, x0)].toArray, ty, pos, af, none⟩ :: rest) Q δ := AOps.eff rfl rfl (Eff.bs1 ht h0 hi hz hzk k0 o0 hd) hK
theorem Eff.bs2 {gd : Option (Tmp × Bool)} {t e : TypeId} {z : Value} {x0 x1 : Operand} {p0 p1 : PV} (ht : P.underlying t = some (.slice e)) (h0 : δ.ev x0 = .pv p0) (h1 : δ.ev x1 = .pv p1) (hi : (P.info? e).map (fun i => (i.size, i.zero)) = some (1, some z)) (hz : z.cells.toList.all (·.oneCell') = true) (hzk : Nat.beq z.cells.size 1 = true) (k0 : AV.one (.pv p0) = true) (k1 : AV.one (.pv p1) = true) (o0 : okT x0 = true) (o1 : okT x1 = true) (hd : okD δ.n dst = true) : Eff P g ⟨dst, .buildSlice t 2 [(0, x0), (1, x1)].toArray, ty, pos, af, gd⟩ δ ((δ.addOb .row).putd dst (.own δ.nx e 1 [[p0], [p1]])) := by
  have hf : fillA (fun i => some (i * 1, 1)) (zerosA z (2 * 1)) (([(0, x0), (1, x1)] : List (Nat × Operand)).map fun p => (p.1, δ.ev p.2)) = some [.pv p0, .pv p1] := by
    simp [fillA, setsA, AV.cellsOf, AV.ones, zerosA, h0, h1, k0, k1, List.map_cons, List.map_nil] <;> rfl
  exact Eff.buildSlice (len := 2) (k := 1) (parts := [(0, x0), (1, x1)]) (cells := [.pv p0, .pv p1]) ht hi hzk rfl rfl hz (by simp [o0, o1]) hf (by simp [AV.isPv]) hd
theorem AOps.bs2 {t e : TypeId} {z : Value} {x0 x1 : Operand} {p0 p1 : PV} (ht : P.underlying t = some (.slice e)) (h0 : δ.ev x0 = .pv p0) (h1 : δ.ev x1 = .pv p1) (hi : (P.info? e).map (fun i => (i.size, i.zero)) = some (1, some z)) (hz : z.cells.toList.all (·.oneCell') = true) (hzk : Nat.beq z.cells.size 1 = true) (k0 : AV.one (.pv p0) = true) (k1 : AV.one (.pv p1) = true) (o0 : okT x0 = true) (o1 : okT x1 = true) (hd : okD δ.n dst = true) (hK : AOps .plain P g ops rest Q ((δ.addOb .row).putd dst (.own δ.nx e 1 [[p0], [p1]]))) : AOps .plain P g ops (⟨dst, .buildSlice t 2 [(0, x0), (1, x1)].toArray, ty, pos, af, none⟩ :: rest) Q δ := AOps.eff rfl rfl (Eff.bs2 ht h0 h1 hi hz hzk k0 k1 o0 o1 hd) hK
theorem Eff.bs3 {gd : Option (Tmp × Bool)} {t e : TypeId} {z : Value} {x0 x1 x2 : Operand} {p0 p1 p2 : PV} (ht : P.underlying t = some (.slice e)) (h0 : δ.ev x0 = .pv p0) (h1 : δ.ev x1 = .pv p1) (h2 : δ.ev x2 = .pv p2) (hi : (P.info? e).map (fun i => (i.size, i.zero)) = some (1, some z)) (hz : z.cells.toList.all (·.oneCell') = true) (hzk : Nat.beq z.cells.size 1 = true) (k0 : AV.one (.pv p0) = true) (k1 : AV.one (.pv p1) = true) (k2 : AV.one (.pv p2) = true) (o0 : okT x0 = true) (o1 : okT x1 = true) (o2 : okT x2 = true) (hd : okD δ.n dst = true) : Eff P g ⟨dst, .buildSlice t 3 [(0, x0), (1, x1), (2, x2)].toArray, ty, pos, af, gd⟩ δ ((δ.addOb .row).putd dst (.own δ.nx e 1 [[p0], [p1], [p2]])) := by
  have hf : fillA (fun i => some (i * 1, 1)) (zerosA z (3 * 1)) (([(0, x0), (1, x1), (2, x2)] : List (Nat × Operand)).map fun p => (p.1, δ.ev p.2)) = some [.pv p0, .pv p1, .pv p2] := by
    simp [fillA, setsA, AV.cellsOf, AV.ones, zerosA, h0, h1, h2, k0, k1, k2, List.map_cons, List.map_nil] <;> rfl
  exact Eff.buildSlice (len := 3) (k := 1) (parts := [(0, x0), (1, x1), (2, x2)]) (cells := [.pv p0, .pv p1, .pv p2]) ht hi hzk rfl rfl hz (by simp [o0, o1, o2]) hf (by simp [AV.isPv]) hd
theorem AOps.bs3 {t e : TypeId} {z : Value} {x0 x1 x2 : Operand} {p0 p1 p2 : PV} (ht : P.underlying t = some (.slice e)) (h0 : δ.ev x0 = .pv p0) (h1 : δ.ev x1 = .pv p1) (h2 : δ.ev x2 = .pv p2) (hi : (P.info? e).map (fun i => (i.size, i.zero)) = some (1, some z)) (hz : z.cells.toList.all (·.oneCell') = true) (hzk : Nat.beq z.cells.size 1 = true) (k0 : AV.one (.pv p0) = true) (k1 : AV.one (.pv p1) = true) (k2 : AV.one (.pv p2) = true) (o0 : okT x0 = true) (o1 : okT x1 = true) (o2 : okT x2 = true) (hd : okD δ.n dst = true) (hK : AOps .plain P g ops rest Q ((δ.addOb .row).putd dst (.own δ.nx e 1 [[p0], [p1], [p2]]))) : AOps .plain P g ops (⟨dst, .buildSlice t 3 [(0, x0), (1, x1), (2, x2)].toArray, ty, pos, af, none⟩ :: rest) Q δ := AOps.eff rfl rfl (Eff.bs3 ht h0 h1 h2 hi hz hzk k0 k1 k2 o0 o1 o2 hd) hK
theorem Eff.bs4 {gd : Option (Tmp × Bool)} {t e : TypeId} {z : Value} {x0 x1 x2 x3 : Operand} {p0 p1 p2 p3 : PV} (ht : P.underlying t = some (.slice e)) (h0 : δ.ev x0 = .pv p0) (h1 : δ.ev x1 = .pv p1) (h2 : δ.ev x2 = .pv p2) (h3 : δ.ev x3 = .pv p3) (hi : (P.info? e).map (fun i => (i.size, i.zero)) = some (1, some z)) (hz : z.cells.toList.all (·.oneCell') = true) (hzk : Nat.beq z.cells.size 1 = true) (k0 : AV.one (.pv p0) = true) (k1 : AV.one (.pv p1) = true) (k2 : AV.one (.pv p2) = true) (k3 : AV.one (.pv p3) = true) (o0 : okT x0 = true) (o1 : okT x1 = true) (o2 : okT x2 = true) (o3 : okT x3 = true) (hd : okD δ.n dst = true) : Eff P g ⟨dst, .buildSlice t 4 [(0, x0), (1, x1), (2, x2), (3, x3)].toArray, ty, pos, af, gd⟩ δ ((δ.addOb .row).putd dst (.own δ.nx e 1 [[p0], [p1], [p2], [p3]])) := by
  have hf : fillA (fun i => some (i * 1, 1)) (zerosA z (4 * 1)) (([(0, x0), (1, x1), (2, x2), (3, x3)] : List (Nat × Operand)).map fun p => (p.1, δ.ev p.2)) = some [.pv p0, .pv p1, .pv p2, .pv p3] := by
    simp [fillA, setsA, AV.cellsOf, AV.ones, zerosA, h0, h1, h2, h3, k0, k1, k2, k3, List.map_cons, List.map_nil] <;> rfl
  exact Eff.buildSlice (len := 4) (k := 1) (parts := [(0, x0), (1, x1), (2, x2), (3, x3)]) (cells := [.pv p0, .pv p1, .pv p2, .pv p3]) ht hi hzk rfl rfl hz (by simp [o0, o1, o2, o3]) hf (by simp [AV.isPv]) hd
theorem AOps.bs4 {t e : TypeId} {z : Value} {x0 x1 x2 x3 : Operand} {p0 p1 p2 p3 : PV} (ht : P.underlying t = some (.slice e)) (h0 : δ.ev x0 = .pv p0) (h1 : δ.ev x1 = .pv p1) (h2 : δ.ev x2 = .pv p2) (h3 : δ.ev x3 = .pv p3) (hi : (P.info? e).map (fun i => (i.size, i.zero)) = some (1, some z)) (hz : z.cells.toList.all (·.oneCell') = true) (hzk : Nat.beq z.cells.size 1 = true) (k0 : AV.one (.pv p0) = true) (k1 : AV.one (.pv p1) = true) (k2 : AV.one (.pv p2) = true) (k3 : AV.one (.pv p3) = true) (o0 : okT x0 = true) (o1 : okT x1 = true) (o2 : okT x2 = true) (o3 : okT x3 = true) (hd : okD δ.n dst = true) (hK : AOps .plain P g ops rest Q ((δ.addOb .row).putd dst (.own δ.nx e 1 [[p0], [p1], [p2], [p3]]))) : AOps .plain P g ops (⟨dst, .buildSlice t 4 [(0, x0), (1, x1), (2, x2), (3, x3)].toArray, ty, pos, af, none⟩ :: rest) Q δ := AOps.eff rfl rfl (Eff.bs4 ht h0 h1 h2 h3 hi hz hzk k0 k1 k2 k3 o0 o1 o2 o3 hd) hK
theorem Eff.bs5 {gd : Option (Tmp × Bool)} {t e : TypeId} {z : Value} {x0 x1 x2 x3 x4 : Operand} {p0 p1 p2 p3 p4 : PV} (ht : P.underlying t = some (.slice e)) (h0 : δ.ev x0 = .pv p0) (h1 : δ.ev x1 = .pv p1) (h2 : δ.ev x2 = .pv p2) (h3 : δ.ev x3 = .pv p3) (h4 : δ.ev x4 = .pv p4) (hi : (P.info? e).map (fun i => (i.size, i.zero)) = some (1, some z)) (hz : z.cells.toList.all (·.oneCell') = true) (hzk : Nat.beq z.cells.size 1 = true) (k0 : AV.one (.pv p0) = true) (k1 : AV.one (.pv p1) = true) (k2 : AV.one (.pv p2) = true) (k3 : AV.one (.pv p3) = true) (k4 : AV.one (.pv p4) = true) (o0 : okT x0 = true) (o1 : okT x1 = true) (o2 : okT x2 = true) (o3 : okT x3 = true) (o4 : okT x4 = true) (hd : okD δ.n dst = true) : Eff P g ⟨dst, .buildSlice t 5 [(0, x0), (1, x1), (2, x2), (3, x3), (4, x4)].toArray, ty, pos, af, gd⟩ δ ((δ.addOb .row).putd dst (.own δ.nx e 1 [[p0], [p1], [p2], [p3], [p4]])) := by
  have hf : fillA (fun i => some (i * 1, 1)) (zerosA z (5 * 1)) (([(0, x0), (1, x1), (2, x2), (3, x3), (4, x4)] : List (Nat × Operand)).map fun p => (p.1, δ.ev p.2)) = some [.pv p0, .pv p1, .pv p2, .pv p3, .pv p4] := by
    simp [fillA, setsA, AV.cellsOf, AV.ones, zerosA, h0, h1, h2, h3, h4, k0, k1, k2, k3, k4, List.map_cons, List.map_nil] <;> rfl
  exact Eff.buildSlice (len := 5) (k := 1) (parts := [(0, x0), (1, x1), (2, x2), (3, x3), (4, x4)]) (cells := [.pv p0, .pv p1, .pv p2, .pv p3, .pv p4]) ht hi hzk rfl rfl hz (by simp [o0, o1, o2, o3, o4]) hf (by simp [AV.isPv]) hd
theorem AOps.bs5 {t e : TypeId} {z : Value} {x0 x1 x2 x3 x4 : Operand} {p0 p1 p2 p3 p4 : PV} (ht : P.underlying t = some (.slice e)) (h0 : δ.ev x0 = .pv p0) (h1 : δ.ev x1 = .pv p1) (h2 : δ.ev x2 = .pv p2) (h3 : δ.ev x3 = .pv p3) (h4 : δ.ev x4 = .pv p4) (hi : (P.info? e).map (fun i => (i.size, i.zero)) = some (1, some z)) (hz : z.cells.toList.all (·.oneCell') = true) (hzk : Nat.beq z.cells.size 1 = true) (k0 : AV.one (.pv p0) = true) (k1 : AV.one (.pv p1) = true) (k2 : AV.one (.pv p2) = true) (k3 : AV.one (.pv p3) = true) (k4 : AV.one (.pv p4) = true) (o0 : okT x0 = true) (o1 : okT x1 = true) (o2 : okT x2 = true) (o3 : okT x3 = true) (o4 : okT x4 = true) (hd : okD δ.n dst = true) (hK : AOps .plain P g ops rest Q ((δ.addOb .row).putd dst (.own δ.nx e 1 [[p0], [p1], [p2], [p3], [p4]]))) : AOps .plain P g ops (⟨dst, .buildSlice t 5 [(0, x0), (1, x1), (2, x2), (3, x3), (4, x4)].toArray, ty, pos, af, none⟩ :: rest) Q δ := AOps.eff rfl rfl (Eff.bs5 ht h0 h1 h2 h3 h4 hi hz hzk k0 k1 k2 k3 k4 o0 o1 o2 o3 o4 hd) hK

theorem mul_bytes {n bytes : Nat} (h : Nat.ble bytes 64 = true) (hl : n ≤ 1000000000000) : n * bytes ≤ 140737488355328 := by
  have h' : bytes ≤ 64 := by simpa using h
  have := Nat.mul_le_mul hl h'
  omega
theorem Eff.appendS {gd : Option (Tmp × Bool)} {s x : Operand} {t e : TypeId} {i k bytes : Nat} {z : Value} {els news : List (List PV)} (hs : δ.ev s = .own i e k els) (hx : Srcs δ x k news) (hr : δ.ob i = some .row) (ht : P.underlying t = some (.slice e))
    (hi : (P.info? e).map (fun i => (i.size, i.zero, i.bytes)) = some (k, some z, bytes)) (hby : Nat.ble bytes 64 = true) (hzk : Nat.beq z.cells.size k = true) (hk0 : Nat.blt 0 k = true) (ho : okT s = true) (ho' : okT x = true) (hd : okD δ.n dst = true)
    (hl : els.length + news.length ≤ 1000000000000) : Eff P g ⟨dst, .call { callee := .builtin .append, args := #[s, x], argTypes := #[t, t] }, ty, pos, af, gd⟩ δ ((δ.mapV (AV.kill i)).putd dst (.own i e k (els ++ news))) :=
  Eff.append hs hx hr ht hi hzk hk0 ho ho' hd (mul_bytes hby hl) (by omega)
theorem AOps.appendS {s x : Operand} {t e : TypeId} {i k bytes : Nat} {z : Value} {els news : List (List PV)} (hs : δ.ev s = .own i e k els) (hx : Srcs δ x k news) (hr : δ.ob i = some .row) (ht : P.underlying t = some (.slice e))
    (hi : (P.info? e).map (fun i => (i.size, i.zero, i.bytes)) = some (k, some z, bytes)) (hby : Nat.ble bytes 64 = true) (hzk : Nat.beq z.cells.size k = true) (hk0 : Nat.blt 0 k = true) (ho : okT s = true) (ho' : okT x = true) (hd : okD δ.n dst = true)
    (hl : els.length + news.length ≤ 1000000000000) (hK : AOps .plain P g ops rest Q ((δ.mapV (AV.kill i)).putd dst (.own i e k (els ++ news)))) :
    AOps .plain P g ops (⟨dst, .call { callee := .builtin .append, args := #[s, x], argTypes := #[t, t] }, ty, pos, af, none⟩ :: rest) Q δ := AOps.eff rfl rfl (Eff.appendS hs hx hr ht hi hby hzk hk0 ho ho' hd hl) hK
theorem Eff.append_nilS {gd : Option (Tmp × Bool)} {s x : Operand} {t e : TypeId} {k bytes : Nat} {z : Value} {news : List (List PV)} (hs : δ.ev s = .pv (.lit (.slice none 0 0))) (hx : Srcs δ x k news) (ht : P.underlying t = some (.slice e))
    (hi : (P.info? e).map (fun i => (i.size, i.zero, i.bytes)) = some (k, some z, bytes)) (hby : Nat.ble bytes 64 = true) (hzk : Nat.beq z.cells.size k = true) (hk0 : Nat.blt 0 k = true) (ho : okT s = true) (ho' : okT x = true) (hd : okD δ.n dst = true)
    (hl : news.length ≤ 1000000000000) : Eff P g ⟨dst, .call { callee := .builtin .append, args := #[s, x], argTypes := #[t, t] }, ty, pos, af, gd⟩ δ ((δ.addOb .row).putd dst (.own δ.nx e k news)) :=
  Eff.append_nil hs hx ht hi hzk hk0 ho ho' hd (mul_bytes hby hl) (by omega)
theorem AOps.append_nilS {s x : Operand} {t e : TypeId} {k bytes : Nat} {z : Value} {news : List (List PV)} (hs : δ.ev s = .pv (.lit (.slice none 0 0))) (hx : Srcs δ x k news) (ht : P.underlying t = some (.slice e))
    (hi : (P.info? e).map (fun i => (i.size, i.zero, i.bytes)) = some (k, some z, bytes)) (hby : Nat.ble bytes 64 = true) (hzk : Nat.beq z.cells.size k = true) (hk0 : Nat.blt 0 k = true) (ho : okT s = true) (ho' : okT x = true) (hd : okD δ.n dst = true)
    (hl : news.length ≤ 1000000000000) (hK : AOps .plain P g ops rest Q ((δ.addOb .row).putd dst (.own δ.nx e k news))) :
    AOps .plain P g ops (⟨dst, .call { callee := .builtin .append, args := #[s, x], argTypes := #[t, t] }, ty, pos, af, none⟩ :: rest) Q δ := AOps.eff rfl rfl (Eff.append_nilS hs hx ht hi hby hzk hk0 ho ho' hd hl) hK
end
end Go.Ab
namespace Go.Ab
theorem AW.len_agg {P : Program} {g : Ghost} {δ : DS} {Q : Exit → DS → Prop} {α : Type} {c : Code} (j i : Nat) {k : Nat} {cs : List AV} {f : α → List PV} {l : List α} (h : δ.get j = .agg cs) (hc : cs[i]? = some (.pv (.slice k (l.map f)))) (hK : l.length ≤ 140737488355328 → AW P g c Q δ) : AW P g c Q δ :=
  AW.fact (fun κ a w r => by
    have h1 := r.env j
    rw [h] at h1
    generalize hu : g.val a j = u at h1
    cases h1 with
    | @agg vs _ hs hv =>
      have hlt : i < vs.size := by rw [hs]; exact (List.getElem?_eq_some_iff.1 hc).1
      obtain ⟨_, _, _, h2⟩ := (hv i _ _ (Array.getElem?_eq_getElem hlt) hc).pv_inv.slice_inv
      simpa using h2) hK
end Go.Ab
namespace Go.Ab
theorem AOps.load_ball {q : Md} {P : Program} {g : Ghost} {δ : DS} {ops : Array Oper} {rest : List Oper} {Q : Exit → DS → Prop} {dst : Option Nat} {ty : TypeId} {pos : String} {af : Array Edge} {x : Operand} {t : TypeId} {i : Nat} {cells : List AV} (hx : δ.ev x = .ptr i 0) (hb : δ.ob i = some (.box cells)) (ht : aggT P t cells.length = true) (ho : okT x = true) (hd : okD δ.n dst = true)
    (hK : AOps q P g ops rest Q (δ.putd dst (.agg cells))) : AOps q P g ops (⟨dst, .load t x, ty, pos, af, none⟩ :: rest) Q δ :=
  AOps.load_bn (n := cells.length) hx hb ht (by simp) ho hd (by simpa using hK)
end Go.Ab
namespace Go.Ab
section
variable {q : Md} {P : Program} {g : Ghost} {δ : DS} {ops : Array Oper} {rest : List Oper} {Q : Exit → DS → Prop} {dst : Option Nat} {ty : TypeId} {pos : String} {af : Array Edge}
theorem AOps.buildArr {t e : TypeId} {len k : Nat} {parts : List (Nat × Operand)} {z : Value} {cells : List AV} (hs : P.underlying t = some (.array len e)) (hk : (P.info? e).map (·.size) = some k) (hz : (P.info? t).bind (·.zero) = some z) (h1 : z.cells.toList.all (·.oneCell') = true)
    (ho : parts.all (fun p => okT p.2) = true) (hf : fillA (fun i => some (i * k, k)) (z.cells.toList.map fun v => .pv (.lit v)) (parts.map fun p => (p.1, δ.ev p.2)) = some cells) (hd : okD δ.n dst = true)
    (hK : AOps q P g ops rest Q (δ.putd dst (.agg cells))) : AOps q P g ops (⟨dst, .build t parts.toArray, ty, pos, af, none⟩ :: rest) Q δ :=
  AOps.valw _ hd (fun κ a w r => by
    obtain ⟨i0, hi0, hz0⟩ : ∃ i0, P.info? t = some i0 ∧ i0.zero = some z := by
      cases h : P.info? t with
      | none => rw [h] at hz; simp at hz
      | some i0 => rw [h] at hz; exact ⟨i0, rfl, by simpa using hz⟩
    obtain ⟨i1, hi1, hk1⟩ : ∃ i1, P.info? e = some i1 ∧ i1.size = k := by
      cases h : P.info? e with
      | none => rw [h] at hk; simp at hk
      | some i1 => rw [h] at hk; exact ⟨i1, rfl, by simpa using hk⟩
    obtain ⟨c', h2, h3⟩ := fill_sound (C := δ.cx g κ) (w := w) (place := fun i => some (i * k, k)) (place' := fun i => some (i * k, k)) (fun i x h => h)
      (parts.map fun p => (p.1, a.eval p.2)) (parts.map fun p => (p.1, δ.ev p.2)) z.cells _ cells (by simp) (fun j x y h4 h5 => by
        simp only [List.getElem?_map, Option.map_eq_some_iff] at h4 h5
        obtain ⟨p, h6, rfl⟩ := h4
        obtain ⟨p', h7, rfl⟩ := h5
        rw [h6] at h7; cases h7
        exact ⟨rfl, r.evc p.2 (okT_spec (by simpa using (List.all_eq_true.1 ho) p (List.mem_of_getElem? h6)))⟩)
      ⟨by simp, fun j u av h4 h5 => by
        simp only [List.getElem?_map, Option.map_eq_some_iff] at h5
        obtain ⟨v, h5, rfl⟩ := h5
        have : v = u := by have := h4; rw [← Array.getElem?_toList, h5] at this; exact Option.some.inj this
        subst this
        exact ⟨.pv (.lit _), by simpa using (List.all_eq_true.1 h1) _ (List.mem_of_getElem? h5)⟩⟩ hf
    refine ⟨.agg c', fun w1 _ => ?_, .agg h3.1 fun j u c h4 h5 => (h3.2 j u c h4 h5).1⟩
    have hzr : ∀ w, (zeroValue t).run P w = .ok z w := fun w => by simp [zeroValue, typeInfo, hi0, hz0]
    have hsr : ∀ w, (sizeOf e).run P w = .ok k w := fun w => by simp [sizeOf, typeInfo, hi1, hk1]
    simp only [execOp, Instr.build, Sem.run_bind, hzr, Result.andThen_ok, run_underlying hs, hsr, List.map_toArray, h2, Sem.run_pure]) hK
/-- [2]T{x, y} -/
theorem AOps.ba2 {t e : TypeId} {x0 x1 : Operand} {p0 p1 : PV} {z : Value} (hs : P.underlying t = some (.array 2 e)) (h0 : δ.ev x0 = .pv p0) (h1 : δ.ev x1 = .pv p1) (hk : (P.info? e).map (·.size) = some 1) (hz : (P.info? t).bind (·.zero) = some z) (hzs : Nat.beq z.cells.size 2 = true) (hz1 : z.cells.toList.all (·.oneCell') = true)
    (k0 : AV.one (.pv p0) = true) (k1 : AV.one (.pv p1) = true) (o0 : okT x0 = true) (o1 : okT x1 = true) (hd : okD δ.n dst = true)
    (hK : AOps q P g ops rest Q (δ.putd dst (.agg [.pv p0, .pv p1]))) : AOps q P g ops (⟨dst, .build t [(0, x0), (1, x1)].toArray, ty, pos, af, none⟩ :: rest) Q δ := by
  refine AOps.buildArr (parts := [(0, x0), (1, x1)]) (cells := [.pv p0, .pv p1]) hs hk hz hz1 (by simp [o0, o1]) ?_ hd hK
  have hsz : z.cells.toList.length = 2 := by simpa using Nat.eq_of_beq_eq_true hzs
  obtain ⟨u, v, huv⟩ : ∃ u v, z.cells.toList = [u, v] := by
    match h : z.cells.toList, hsz with
    | [u, v], _ => exact ⟨u, v, rfl⟩
  rw [huv]
  simp [fillA, setsA, AV.cellsOf, AV.ones, h0, h1, k0, k1] <;> rfl
/-- []T{x}, T of two cells. -/
theorem Eff.bs1a2 {gd : Option (Tmp × Bool)} {t e : TypeId} {x0 : Operand} {p0 p1 : PV} {z : Value} (ht : P.underlying t = some (.slice e)) (h0 : δ.ev x0 = .agg [.pv p0, .pv p1]) (hi : (P.info? e).map (fun i => (i.size, i.zero)) = some (2, some z)) (hz : z.cells.toList.all (·.oneCell') = true) (hzk : Nat.beq z.cells.size 2 = true)
    (k0 : AV.one (.pv p0) = true) (k1 : AV.one (.pv p1) = true) (o0 : okT x0 = true) (hd : okD δ.n dst = true) : Eff P g ⟨dst, .buildSlice t 1 [(0, x0)].toArray, ty, pos, af, gd⟩ δ ((δ.addOb .row).putd dst (.own δ.nx e 2 [[p0, p1]])) := by
  have hf : fillA (fun i => some (i * 2, 2)) (zerosA z (1 * 2)) (([(0, x0)] : List (Nat × Operand)).map fun p => (p.1, δ.ev p.2)) = some [.pv p0, .pv p1] := by
    simp [fillA, setsA, AV.cellsOf, AV.ones, zerosA, h0, k0, k1] <;> rfl
  exact Eff.buildSlice (len := 1) (k := 2) (parts := [(0, x0)]) (cells := [.pv p0, .pv p1]) ht hi hzk rfl rfl hz (by simp [o0]) hf (by simp [AV.isPv]) hd
theorem AOps.bs1a2 {t e : TypeId} {x0 : Operand} {p0 p1 : PV} {z : Value} (ht : P.underlying t = some (.slice e)) (h0 : δ.ev x0 = .agg [.pv p0, .pv p1]) (hi : (P.info? e).map (fun i => (i.size, i.zero)) = some (2, some z)) (hz : z.cells.toList.all (·.oneCell') = true) (hzk : Nat.beq z.cells.size 2 = true)
    (k0 : AV.one (.pv p0) = true) (k1 : AV.one (.pv p1) = true) (o0 : okT x0 = true) (hd : okD δ.n dst = true) (hK : AOps .plain P g ops rest Q ((δ.addOb .row).putd dst (.own δ.nx e 2 [[p0, p1]]))) :
    AOps .plain P g ops (⟨dst, .buildSlice t 1 [(0, x0)].toArray, ty, pos, af, none⟩ :: rest) Q δ := AOps.eff rfl rfl (Eff.bs1a2 ht h0 hi hz hzk k0 k1 o0 hd) hK
end
end Go.Ab
namespace Go.Ab
section
variable {q : Md} {P : Program} {g : Ghost} {δ : DS} {ops : Array Oper} {rest : List Oper} {Q : Exit → DS → Prop} {dst : Option Nat} {ty : TypeId} {pos : String} {af : Array Edge}
/-- an index that is told as a whole number. -/
theorem AOps.index_mapI {α : Type} {x y : Operand} {t e : TypeId} {k : Nat} {m : Int} {f : α → List PV} {l : List α} (hx : δ.ev x = .pv (.slice k (l.map f))) (hy : δ.ev y = litI m)
    (ht : P.underlying t = some (.slice e)) (hk : (P.info? e).map (·.size) = some k) (ho : okT x = true) (ho' : okT y = true) (hd : okD δ.n dst = true) (h0 : 0 ≤ m) (hn : m.toNat < l.length)
    (hK : AOps q P g ops rest Q (δ.putd dst (.rptr (f l[m.toNat])))) : AOps q P g ops (⟨dst, .indexAddr t x y, ty, pos, af, none⟩ :: rest) Q δ :=
  AOps.index_map (n := m.toNat) hx (by rw [hy, Int.toNat_of_nonneg h0]) hn ht hk ho ho' hd hK
/-- x[:n] -/
theorem AOps.slice_to {α : Type} {t e : TypeId} {x y : Operand} {k n : Nat} {f : α → List PV} {l : List α} (hx : δ.ev x = .pv (.slice k (l.map f))) (hy : δ.ev y = litI (n : Nat)) (ht : P.underlying t = some (.slice e)) (hk : (P.info? e).map (·.size) = some k)
    (ho : okT x = true) (ho' : okT y = true) (hd : okD δ.n dst = true) (hn : n ≤ l.length) (hK : AOps q P g ops rest Q (δ.putd dst (.pv (.slice k ((l.take n).map f))))) : AOps q P g ops (⟨dst, .slice t x none (some y) none, ty, pos, af, none⟩ :: rest) Q δ :=
  AOps.slice (l := 0) (h := n) (hi := some y) (lo := none) hx ht hk rfl ⟨ho', hy⟩ (Nat.zero_le _) (by simpa using hn) ho hd (by simpa [List.map_take] using hK)
/-- x[m:n] -/
theorem AOps.slice_ft {α : Type} {t e : TypeId} {x y z : Operand} {k m n : Nat} {f : α → List PV} {l : List α} (hx : δ.ev x = .pv (.slice k (l.map f))) (hz : δ.ev z = litI (m : Nat)) (hy : δ.ev y = litI (n : Nat)) (ht : P.underlying t = some (.slice e)) (hk : (P.info? e).map (·.size) = some k)
    (ho : okT x = true) (ho'' : okT z = true) (ho' : okT y = true) (hd : okD δ.n dst = true) (hmn : m ≤ n) (hn : n ≤ l.length) (hK : AOps q P g ops rest Q (δ.putd dst (.pv (.slice k (((l.drop m).take (n - m)).map f))))) : AOps q P g ops (⟨dst, .slice t x (some z) (some y) none, ty, pos, af, none⟩ :: rest) Q δ :=
  AOps.slice (l := m) (h := n) (hi := some y) (lo := some z) hx ht hk ⟨ho'', hz⟩ ⟨ho', hy⟩ hmn (by simpa using hn) ho hd (by simpa [List.map_take, List.map_drop] using hK)
end
end Go.Ab
