/- Laws of operations whose results stand in plain form. -/
import Derived.Test.YthahkdmlcgfpcaaAbNorm
set_option linter.unusedSimpArgs false
set_option linter.unusedVariables false
namespace Go.Ab
open Go Go.RowKit
attribute [local irreducible] HS
variable {q : Md} {P : Program} {g : Ghost} {δ : DS} {κ : Nat → Option Nat} {a : Act} {w : World}
variable {ops : Array Oper} {rest : List Oper} {Q : Exit → DS → Prop} {dst : Option Nat} {ty : TypeId} {pos : String} {af : Array Edge}

/-- a field's place. -/
def offB (P : Program) (s : TypeId) (f k : Nat) : Bool := match P.underlying s with
  | some (.struct fs) => (match fs[f]? with | some fld => Nat.beq fld.offset k && ((P.info? fld.type).map fun i => Nat.blt 0 i.size) == some true | none => false)
  | _ => false
theorem AOps.fieldAddrN (s : TypeId) (f k : Nat) {x : Operand} {i off : Nat} (hx : δ.ev x = .ptr i off) (hB : offB P s f k = true) (ho : okT x = true) (hd : okD δ.n dst = true)
    (hK : AOps q P g ops rest Q (δ.putd dst (.ptr i (off + k)))) : AOps q P g ops (⟨dst, .fieldAddr s x f, ty, pos, af, none⟩ :: rest) Q δ := by
  unfold offB at hB
  split at hB
  · rename_i fs hs
    split at hB
    · rename_i fld hf
      simp only [Bool.and_eq_true, beq_iff_eq] at hB
      have hk := Nat.eq_of_beq_eq_true hB.1
      subst hk
      exact AOps.fieldAddr hx hs hf hB.2 ho hd hK
    · cases hB
  · cases hB
def off1B (P : Program) (s : TypeId) (f k : Nat) : Bool := match P.underlying s with
  | some (.struct fs) => (match fs[f]? with | some fld => Nat.beq fld.offset k && scalarT P fld.type | none => false)
  | _ => false
theorem AOps.field1N (s : TypeId) (f k : Nat) {x : Operand} {cs : List AV} {v : AV} (hx : δ.ev x = .agg cs) (hB : off1B P s f k = true) (hv : cs[k]? = some v) (ho : okT x = true) (hd : okD δ.n dst = true)
    (hK : AOps q P g ops rest Q (δ.putd dst v)) : AOps q P g ops (⟨dst, .field s x f, ty, pos, af, none⟩ :: rest) Q δ := by
  unfold off1B at hB
  split at hB
  · rename_i fs hs
    split at hB
    · rename_i fld hf
      simp only [Bool.and_eq_true] at hB
      have hk := Nat.eq_of_beq_eq_true hB.1
      subst hk
      exact AOps.field1 hx hs hf hB.2 hv ho hd hK
    · cases hB
  · cases hB
def subA : List AV → Nat → Nat → List AV
  | [], _, _ => []
  | v :: r, k, n => bif k == 0 then (bif n == 0 then [] else v :: subA r 0 (n - 1)) else subA r (k - 1) n
theorem subA_eq : ∀ (l : List AV) (k n : Nat), (l.drop k).take n = subA l k n
  | [], k, n => by simp [subA]
  | v :: r, 0, 0 => by simp [subA]
  | v :: r, 0, n + 1 => by
    have := subA_eq r 0 n
    simp only [List.drop_zero] at this
    simp [subA, ← this]
  | v :: r, k + 1, n => by simp [subA, ← subA_eq r k n]
def offnB (P : Program) (s : TypeId) (f k n : Nat) : Bool := match P.underlying s with
  | some (.struct fs) => (match fs[f]? with | some fld => Nat.beq fld.offset k && aggT P fld.type n | none => false)
  | _ => false
theorem AOps.fieldnN (s : TypeId) (f k n : Nat) {x : Operand} {cs : List AV} (hx : δ.ev x = .agg cs) (hB : offnB P s f k n = true) (hle : Nat.ble (k + n) cs.length = true) (ho : okT x = true) (hd : okD δ.n dst = true)
    (hK : AOps q P g ops rest Q (δ.putd dst (.agg (subA cs k n)))) : AOps q P g ops (⟨dst, .field s x f, ty, pos, af, none⟩ :: rest) Q δ := by
  unfold offnB at hB
  split at hB
  · rename_i fs hs
    split at hB
    · rename_i fld hf
      simp only [Bool.and_eq_true] at hB
      have hk := Nat.eq_of_beq_eq_true hB.1
      subst hk
      exact AOps.fieldn hx hs hf hB.2 hle ho hd (by rw [subA_eq]; exact hK)
    · cases hB
  · cases hB
/-- into a cell of memory that is told. -/
def subP : List PV → Nat → Nat → List PV
  | [], _, _ => []
  | v :: r, k, n => bif k == 0 then (bif n == 0 then [] else v :: subP r 0 (n - 1)) else subP r (k - 1) n
theorem subP_eq : ∀ (l : List PV) (k n : Nat), (l.drop k).take n = subP l k n
  | [], k, n => by simp [subP]
  | v :: r, 0, 0 => by simp [subP]
  | v :: r, 0, n + 1 => by
    have := subP_eq r 0 n
    simp only [List.drop_zero] at this
    simp [subP, ← this]
  | v :: r, k + 1, n => by simp [subP, ← subP_eq r k n]
def offrB (P : Program) (s : TypeId) (f k n : Nat) : Bool := match P.underlying s with
  | some (.struct fs) => (match fs[f]? with | some fld => Nat.beq fld.offset k && (((P.info? fld.type).map fun i => Nat.blt 0 i.size) == some true && (P.info? fld.type).map (·.size) == some n) | none => false)
  | _ => false
theorem AOps.fieldAddr_rN (s : TypeId) (f k n : Nat) {x : Operand} {cs : List PV} (hx : δ.ev x = .rptr cs) (hB : offrB P s f k n = true) (ho : okT x = true) (hd : okD δ.n dst = true)
    (hK : AOps q P g ops rest Q (δ.putd dst (.rptr (subP cs k n)))) : AOps q P g ops (⟨dst, .fieldAddr s x f, ty, pos, af, none⟩ :: rest) Q δ := by
  unfold offrB at hB
  split at hB
  · rename_i fs hs
    split at hB
    · rename_i fld hf
      simp only [Bool.and_eq_true, beq_iff_eq] at hB
      have hk := Nat.eq_of_beq_eq_true hB.1
      subst hk
      exact AOps.fieldAddr_r hx hs hf hB.2.1 hB.2.2 ho hd (by rw [subP_eq]; exact hK)
    · cases hB
  · cases hB

/-! zero values by cells, structs built -/
def litL : List Value → List AV
  | [] => []
  | v :: r => .pv (.lit v) :: litL r
theorem litL_eq : ∀ l : List Value, (l.map fun v => AV.pv (PV.lit v)) = litL l
  | [] => rfl
  | v :: r => by rw [List.map_cons, litL_eq r]; rfl
/-- the zero value's cells are these. -/
def zeroB (P : Program) (t : TypeId) (l : List Value) : Prop := ∃ z, (P.info? t).bind (·.zero) = some z ∧ z.cells = l.toArray ∧ l.all (·.oneCell') = true
theorem AOps.allocN (e : TypeId) (l : List Value) (hz : zeroB P e l) (hd : okD δ.n dst = true)
    (hK : AOps .plain P g ops rest Q ((δ.addOb (.box (litL l))).putd dst (.ptr δ.nx 0))) : AOps .plain P g ops (⟨dst, .alloc e, ty, pos, af, none⟩ :: rest) Q δ := by
  obtain ⟨z, h1, h2, h3⟩ := hz
  refine AOps.alloc h1 (by rw [h2]; exact h3) hd ?_
  rw [h2, List.toList_toArray, litL_eq]
  exact hK
/-- values laid over the zero value's cells. -/
def layN : List AV → List (Nat × AV) → List AV
  | cs, [] => cs
  | cs, (k, v) :: r => layN (setN cs k v.cellsOf) r
where setN : List AV → Nat → List AV → List AV
  | cs, _, [] => cs
  | cs, k, v :: r => setN (Nf.cset cs k v) (k + 1) r
theorem setN_eq : ∀ (vs cs : List AV) (k : Nat), setsA cs k vs = layN.setN cs k vs
  | [], cs, k => rfl
  | v :: r, cs, k => by
    unfold setsA layN.setN
    rw [Nf.cset_eq, setN_eq r]
theorem fillA_lay {place : Nat → Option (Nat × Nat)} : ∀ (ps : List (Nat × AV)) (offs : List Nat) (cs cells : List AV), fillA place cs ps = some cells → (ps.map fun p => (place p.1).map (·.1)) = offs.map some →
    cells = layN cs (offs.zip (ps.map (·.2)))
  | [], offs, cs, cells, h, _ => by simp only [fillA, Option.some.injEq] at h; subst h; cases offs <;> rfl
  | (i, v) :: ps, [], cs, cells, h, ho => by simp at ho
  | (i, v) :: ps, k :: offs, cs, cells, h, ho => by
    simp only [List.map_cons, List.cons.injEq] at ho
    unfold fillA at h
    cases hp : place i with
    | none => rw [hp] at h; cases h
    | some x =>
      obtain ⟨off, size⟩ := x
      rw [hp] at h ho
      simp only [Option.map_some, Option.some.injEq] at ho
      obtain ⟨rfl, ho⟩ := ho
      simp only at h
      cases hb : (Nat.beq v.cellsOf.length size && Nat.ble (off + v.cellsOf.length) cs.length && AV.ones v.cellsOf) with
      | false => rw [hb] at h; cases h
      | true =>
        rw [hb] at h
        have := fillA_lay ps offs _ cells h ho
        rw [this, setN_eq]
        rfl
/-- the parts' values, by their places. -/
def layP (e : List (Nat × AV)) : List Nat → List (Nat × Operand) → List (Nat × AV)
  | k :: ks, (_, .tmp t) :: ps => (k, look e t) :: layP e ks ps
  | k :: ks, (_, .const v) :: ps => (k, .pv (.lit v)) :: layP e ks ps
  | k :: ks, (_, .global _) :: ps => (k, .any) :: layP e ks ps
  | k :: ks, (_, .func f) :: ps => (k, .clo (.func f) [] []) :: layP e ks ps
  | _, _ => []
theorem layP_eq (δ : DS) : ∀ (offs : List Nat) (ps : List (Nat × Operand)), offs.zip ((ps.map fun p => (p.1, δ.ev p.2)).map (·.2)) = layP δ.env offs ps
  | [], [] => rfl
  | [], _ :: _ => rfl
  | _ :: _, [] => rfl
  | k :: ks, (i, x) :: ps => by
    simp only [List.map_cons, List.zip_cons_cons, layP_eq δ ks ps]
    cases x <;> rfl
theorem AOps.buildN (t : TypeId) (offs : List Nat) {l : List Value} {parts : List (Nat × Operand)} {fs : Array Field} {z : Value} {cells : List AV} (hs : P.underlying t = some (.struct fs)) (hz : (P.info? t).bind (·.zero) = some z) (hl : z.cells = l.toArray) (h1 : z.cells.toList.all (·.oneCell') = true) (hall : fs.toList.all (fun f => (P.info? f.type).isSome) = true)
    (ho : parts.all (fun p => okT p.2) = true) (hof : ((parts.map fun p => (p.1, δ.ev p.2)).map fun p => (placeOf P fs p.1).map (·.1)) = offs.map some) (hf : fillA (placeOf P fs) (z.cells.toList.map fun v => .pv (.lit v)) (parts.map fun p => (p.1, δ.ev p.2)) = some cells) (hd : okD δ.n dst = true)
    (hK : AOps q P g ops rest Q (δ.putd dst (.agg (layN (litL l) (layP δ.env offs parts))))) : AOps q P g ops (⟨dst, .build t parts.toArray, ty, pos, af, none⟩ :: rest) Q δ := by
  refine AOps.build hs hz h1 hall ho hf hd ?_
  have := fillA_lay _ offs _ cells hf hof
  rw [layP_eq, hl, List.toList_toArray, litL_eq] at this
  rw [this]
  exact hK
theorem AOps.allocN' {e : TypeId} {z : Value} {l : List Value} (hz : (P.info? e).bind (·.zero) = some z) (hl : z.cells = l.toArray) (h1 : z.cells.toList.all (·.oneCell') = true) (hd : okD δ.n dst = true)
    (hK : AOps .plain P g ops rest Q ((δ.addOb (.box (litL l))).putd dst (.ptr δ.nx 0))) : AOps .plain P g ops (⟨dst, .alloc e, ty, pos, af, none⟩ :: rest) Q δ := by
  refine AOps.alloc hz h1 hd ?_
  rw [hl, List.toList_toArray, litL_eq]
  exact hK

/-! a loop's record turns -/
def setSt : Option Ob → LpSt → Option Ob
  | some (.loop l tm ps asg body _), st => some (.loop l tm ps asg body st)
  | o, _ => o
def stO (δ : DS) (i : Nat) (st : LpSt) : DS := ⟨δ.n, δ.env, (i, setSt (lookOb δ.objs i) st) :: δ.objs, δ.nx⟩
theorem stO_eq {i l : Nat} {s : LpSt} (st : LpSt) (h : isLp δ i l s) : δ.lpSt i st = stO δ i st := by
  obtain ⟨tm, ps, asg, body, ho⟩ := h
  unfold DS.lpSt stO
  rw [ho]
  have : lookOb δ.objs i = some (.loop l tm ps asg body s) := ho
  rw [this]
  rfl
def roundEndsN (P : Program) (g : Ghost) (ops : Array Oper) (rest : List Oper) (Q : Exit → DS → Prop) (dst : Option Nat) (n i l : Nat) : Exit → DS → Prop
  | .normal, δ => isLp δ i l .busy ∧ AOps .plain P g ops rest Q ((stO (roundBack n δ) i .ready).putd dst (litB true))
  | .ret, δ => isLp δ i l .busy ∧ AOps .plain P g ops rest Q ((stO (roundBack n δ) i (.done .ret)).putd dst (litB false))
  | .exit id, δ => isLp δ i l .busy ∧ AOps .plain P g ops rest Q ((stO (roundBack n δ) i (.done (.exit id))).putd dst (litB false))
  | _, _ => False
theorem isLp_back {n i l : Nat} {st} (h : isLp δ i l st) : isLp (roundBack n δ) i l st := h
theorem AOps.yieldN {x : Operand} {ys : List Operand} {tys : Array TypeId} {i l n0 : Nat} {tm : Array Value} {ps : List Tmp} {asg body : Code} {ps' : Array Tmp} {asg' body' : Code} (hcode : LpCode ps' asg' body' ps asg body) (hro : g.ro = none) (hwt : g.wt = none) (hheld : ∀ j, j < HS → g.held (j + HS) = tm.getD j undef) (htm : tm.size = n0)
    (hn0 : Nat.ble n0 HS = true)
    (hx : δ.ev x = .yld i) (hob : δ.ob i = some (.loop l tm ps' asg' body' .ready)) (ho : okT x = true) (hys : ys.all okT = true) (hlen : Nat.beq ys.length ps.length = true) (hps : ps.all (fun t => Nat.blt t n0) = true) (hd' : okD δ.n dst = true)
    (h : ∀ g' : Ghost, g'.ro = some l → g'.wt = none → AW P g' asg (thenD (fun δ1 => isLp δ1 i l .ready ∧ AW P g' body (roundEndsN P g ops rest Q dst δ.n i l) (stO δ1 i .busy)) (fun _ _ => False)) (roundD n0 ps (ys.map δ.ev) δ)) :
    AOps .plain P g ops (⟨dst, .call { callee := .value x, args := ys.toArray, argTypes := tys }, ty, pos, af, none⟩ :: rest) Q δ := by
  refine AOps.yieldH hcode hro hwt hheld htm hn0 hx hob ho hys hlen hps hd' fun g' h1 h2 => (h g' h1 h2).mono ?_
  intro e δ1 he
  cases e with
  | normal =>
    obtain ⟨h3, h4⟩ := he
    refine ⟨h3, ?_⟩
    rw [stO_eq _ h3]
    refine AW.mono h4 ?_
    intro e2 δ2 he2
    cases e2 with
    | normal => exact ⟨he2.1, by show AOps .plain P g ops rest Q (((roundBack δ.n δ2).lpSt i .ready).putd dst (litB true)); rw [stO_eq .ready (isLp_back (n := δ.n) he2.1)]; exact he2.2⟩
    | ret => exact ⟨he2.1, by show AOps .plain P g ops rest Q (((roundBack δ.n δ2).lpSt i (.done .ret)).putd dst (litB false)); rw [stO_eq (.done .ret) (isLp_back (n := δ.n) he2.1)]; exact he2.2⟩
    | exit id => exact ⟨he2.1, by show AOps .plain P g ops rest Q (((roundBack δ.n δ2).lpSt i (.done (.exit id))).putd dst (litB false)); rw [stO_eq (.done (.exit id)) (isLp_back (n := δ.n) he2.1)]; exact he2.2⟩
    | _ => exact he2.elim
  | _ => exact he.elim
theorem roundEndsN_n {n i l : Nat} (h1 : isLp δ i l .busy) (h2 : AOps .plain P g ops rest Q ((stO (roundBack n δ) i .ready).putd dst (litB true))) : roundEndsN P g ops rest Q dst n i l .normal δ := ⟨h1, h2⟩
theorem roundEndsN_r {n i l : Nat} (h1 : isLp δ i l .busy) (h2 : AOps .plain P g ops rest Q ((stO (roundBack n δ) i (.done .ret)).putd dst (litB false))) : roundEndsN P g ops rest Q dst n i l .ret δ := ⟨h1, h2⟩
theorem roundEndsN_x {n i l id : Nat} (h1 : isLp δ i l .busy) (h2 : AOps .plain P g ops rest Q ((stO (roundBack n δ) i (.done (.exit id))).putd dst (litB false))) : roundEndsN P g ops rest Q dst n i l (.exit id) δ := ⟨h1, h2⟩
def bkO (n i : Nat) (δ : DS) : DS := ⟨n, unshiftE δ.env, (i, setSt (lookOb δ.objs i) .over) :: δ.objs, δ.nx⟩
theorem bkO_eq {n i l : Nat} {tm ps asg body st} (ho : δ.ob i = some (.loop l tm ps asg body st)) : backD n i δ = bkO n i δ := by
  unfold backD bkO
  rw [ho]
  have : lookOb δ.objs i = some (.loop l tm ps asg body st) := ho
  rw [this]; rfl
theorem iterEndsN_ready {n i l : Nat} {tm ps asg body} {e : Exit} (he : e = .normal ∨ e = .ret) (ho : δ.ob i = some (.loop l tm ps asg body .ready)) (h : Q .normal (bkO n i δ)) : iterEnds n i l Q e δ := iterEnds_ready he ho (by rw [bkO_eq ho]; exact h)
theorem iterEndsN_exit {n i l id : Nat} {tm ps asg body} {e : Exit} (he : e = .normal ∨ e = .ret) (ho : δ.ob i = some (.loop l tm ps asg body (.done (.exit id)))) (h : Q (.exit id) (bkO n i δ)) : iterEnds n i l Q e δ := iterEnds_exit he ho (by rw [bkO_eq ho]; exact h)
theorem iterEndsN_ret {n i l : Nat} {tm ps asg body} {e : Exit} (he : e = .normal ∨ e = .ret) (ho : δ.ob i = some (.loop l tm ps asg body (.done .ret))) (h : Q .ret (bkO n i δ)) : iterEnds n i l Q e δ := iterEnds_ret he ho (by rw [bkO_eq ho]; exact h)
namespace Nf
variable {n x : Nat} {e : List (Nat × AV)} {o : List (Nat × Option Ob)}
theorem sto (i : Nat) (st : LpSt) : stO ⟨n, e, o, x⟩ i st = ⟨n, e, (i, setSt (lookOb o i) st) :: o, x⟩ := rfl
theorem bko (m i : Nat) : bkO m i ⟨n, e, o, x⟩ = ⟨m, unshiftE e, (i, setSt (lookOb o i) .over) :: o, x⟩ := rfl
theorem sst (l : Nat) (tm ps asg body st st') : setSt (some (.loop l tm ps asg body st)) st' = some (.loop l tm ps asg body st') := rfl
theorem ll0 : litL [] = [] := rfl
theorem ll1 (v : Value) (r : List Value) : litL (v :: r) = .pv (.lit v) :: litL r := rfl
theorem la0 (cs : List AV) : layN cs [] = cs := rfl
theorem la1 (cs : List AV) (k : Nat) (v : AV) (r : List (Nat × AV)) : layN cs ((k, v) :: r) = layN (layN.setN cs k v.cellsOf) r := rfl
theorem sn0 (cs : List AV) (k : Nat) : layN.setN cs k [] = cs := rfl
theorem sn1 (cs : List AV) (k : Nat) (v : AV) (r : List AV) : layN.setN cs k (v :: r) = layN.setN (cset cs k v) (k + 1) r := rfl
theorem cs0 (k : Nat) (w : AV) : cset [] k w = [] := rfl
theorem cs1 (v : AV) (r : List AV) (k : Nat) (w : AV) : cset (v :: r) k w = bif k == 0 then w :: r else v :: cset r (k - 1) w := by cases k <;> rfl
theorem lp_t (k : Nat) (ks : List Nat) (i t : Nat) (ps : List (Nat × Operand)) : layP e (k :: ks) ((i, .tmp t) :: ps) = (k, look e t) :: layP e ks ps := rfl
theorem lp_c (k : Nat) (ks : List Nat) (i : Nat) (v : Value) (ps : List (Nat × Operand)) : layP e (k :: ks) ((i, .const v) :: ps) = (k, .pv (.lit v)) :: layP e ks ps := rfl
theorem lp_f (k : Nat) (ks : List Nat) (i f : Nat) (ps : List (Nat × Operand)) : layP e (k :: ks) ((i, .func f) :: ps) = (k, .clo (.func f) [] []) :: layP e ks ps := rfl
theorem lp0 : layP e [] [] = [] := rfl
theorem sa0 (k n : Nat) : subA [] k n = [] := rfl
theorem sa1 (v : AV) (r : List AV) (k n : Nat) : subA (v :: r) k n = bif k == 0 then (bif n == 0 then [] else v :: subA r 0 (n - 1)) else subA r (k - 1) n := rfl
theorem sp0 (k n : Nat) : subP [] k n = [] := rfl
theorem sp1 (v : PV) (r : List PV) (k n : Nat) : subP (v :: r) k n = bif k == 0 then (bif n == 0 then [] else v :: subP r 0 (n - 1)) else subP r (k - 1) n := rfl
end Nf
end Go.Ab
namespace Go.Ab
open Go Go.RowKit
section
variable {q : Md} {P : Program} {g : Ghost} {δ : DS} {ops : Array Oper} {rest : List Oper} {Q : Exit → DS → Prop} {dst : Option Nat} {ty : TypeId} {pos : String} {af : Array Edge}
theorem AOps.move_rptr {x : Operand} {c : List PV} (hx : δ.ev x = .rptr c) (ho : okT x = true) (hd : okD δ.n dst = true) (hK : AOps q P g ops rest Q (δ.putd dst (.rptr c))) : AOps q P g ops (⟨dst, .move x, ty, pos, af, none⟩ :: rest) Q δ := AOps.move hx ho hd hK
theorem AOps.assign_rptr {x : Operand} {c : List PV} (hx : δ.ev x = .rptr c) (ho : okT x = true) (hd : okD δ.n dst = true) (hK : AOps q P g ops rest Q (δ.putd dst (.rptr c))) : AOps q P g ops (⟨dst, .assign x, ty, pos, af, none⟩ :: rest) Q δ := AOps.assign hx ho hd hK
theorem AOps.assign_agg {x : Operand} {l : List AV} (hx : δ.ev x = .agg l) (ho : okT x = true) (hd : okD δ.n dst = true) (hK : AOps q P g ops rest Q (δ.putd dst (.agg l))) : AOps q P g ops (⟨dst, .assign x, ty, pos, af, none⟩ :: rest) Q δ := AOps.assign hx ho hd hK
theorem AOps.assign_mapr {x : Operand} {i : Nat} (hx : δ.ev x = .mapr i) (ho : okT x = true) (hd : okD δ.n dst = true) (hK : AOps q P g ops rest Q (δ.putd dst (.mapr i))) : AOps q P g ops (⟨dst, .assign x, ty, pos, af, none⟩ :: rest) Q δ := AOps.assign hx ho hd hK
theorem AOps.move_mapr {x : Operand} {i : Nat} (hx : δ.ev x = .mapr i) (ho : okT x = true) (hd : okD δ.n dst = true) (hK : AOps q P g ops rest Q (δ.putd dst (.mapr i))) : AOps q P g ops (⟨dst, .move x, ty, pos, af, none⟩ :: rest) Q δ := AOps.move hx ho hd hK
theorem AOps.nilCheck_rptr {x : Operand} {c : List PV} (hx : δ.ev x = .rptr c) (ho : okT x = true) (hd : okD δ.n dst = true) (hK : AOps q P g ops rest Q (δ.putd dst (.rptr c))) :
    AOps q P g ops (⟨dst, .nilCheck x, ty, pos, af, none⟩ :: rest) Q δ :=
  AOps.valw _ hd (fun κ a w r => by
    have h1 := r.ra hx ho
    have h2 := h1
    generalize hu : a.eval x = u at h1
    cases h1 with
    | rptr b off vs hN hb hc hr => exact ⟨_, fun w' _ => by simp [execOp, hu], hu ▸ h2⟩) hK
end
end Go.Ab
