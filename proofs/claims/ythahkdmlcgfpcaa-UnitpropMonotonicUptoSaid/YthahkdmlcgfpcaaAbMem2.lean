/- The operations' laws where memory turns. -/
import Derived.Test.YthahkdmlcgfpcaaAbMem
set_option linter.unusedSimpArgs false
set_option linter.unusedVariables false
namespace Go.Ab
open Go Go.RowKit
variable {q : Md} {P : Program} {g : Ghost} {δ : DS} {κ : Nat → Option Nat} {a : Act} {w : World}
variable {gd : Option (Tmp × Bool)} {ops : Array Oper} {rest : List Oper} {Q : Exit → DS → Prop} {dst : Option Nat} {ty : TypeId} {pos : String} {af : Array Edge}

/-- a told value that takes one cell. -/
def AV.one : AV → Bool
  | .pv (.lit v) => v.oneCell'
  | .pv (.slice _ _) => true
  | .pv (.mp _) => true
  | .own _ _ _ _ | .ptr _ _ | .rptr _ | .optr _ _ _ _ _ | .clo _ _ _ | .mapr _ | .yld _ => true
  | .any | .pv .any | .agg _ | .tup _ => false
def AV.ones : List AV → Bool
  | [] => true
  | c :: cs => c.one && AV.ones cs
theorem AV.ones_at : ∀ {l : List AV}, AV.ones l = true → ∀ (j : Nat) (c : AV), l[j]? = some c → c.one = true
  | [], _, j, c, h => by simp at h
  | x :: l, h, j, c, hj => by
    simp only [AV.ones, Bool.and_eq_true] at h
    cases j with
    | zero => simp at hj; subst hj; exact h.1
    | succ j => exact AV.ones_at h.2 j c (by simpa using hj)

theorem RA.one {C : Cx} {w : World} {v : Value} {av : AV} (h : RA C w v av) (h1 : av.one = true) : v.oneCell' = true := by
  cases h with
  | any v => simp [AV.one] at h1
  | @pv v p h => cases h with | any v => simp [AV.one] at h1 | lit v => exact h1 | slice => rfl | mp => rfl
  | own h => obtain ⟨a0, c, rfl⟩ := h.inv; rfl
  | ptr => rfl
  | rptr => rfl
  | optr => rfl
  | agg => simp [AV.one] at h1
  | tup => simp [AV.one] at h1
  | clo => rfl
  | mapr => rfl
  | yld => rfl
theorem cells_one {v : Value} (h : v.oneCell' = true) : v.cells = #[v] := by cases v <;> first | rfl | (simp [Value.oneCell'] at h)

/-- the cells of a told value. -/
def AV.cellsOf : AV → List AV
  | .agg cs => cs
  | v => [v]
theorem RA.cells {C : Cx} {w : World} {v : Value} {av : AV} (h : RA C w v av) (h1 : AV.ones av.cellsOf = true) : v.cells.size = av.cellsOf.length ∧
    ∀ (j : Nat) (u : Value) (c : AV), v.cells[j]? = some u → av.cellsOf[j]? = some c → RA C w u c ∧ u.oneCell' = true := by
  by_cases hag : ∃ cs, av = .agg cs
  · obtain ⟨cs, rfl⟩ := hag
    cases h with
    | agg hs h => exact ⟨hs, fun j u c h2 h3 => ⟨h j u c h2 h3, (h j u c h2 h3).one (AV.ones_at h1 j c h3)⟩⟩
  · have hc : av.cellsOf = [av] := by cases av <;> first | rfl | exact absurd ⟨_, rfl⟩ hag
    rw [hc] at h1 ⊢
    simp only [AV.ones, Bool.and_true] at h1
    have ho := h.one h1
    rw [cells_one ho]
    refine ⟨rfl, fun j u c h2 h3 => ?_⟩
    match j with
    | 0 => simp at h2 h3; subst h2; subst h3; exact ⟨h, ho⟩
    | j + 1 => simp at h3

/-- a box's block is no row's. -/
theorem Rel.notrow (r : Rel g δ κ a w) {i b : Nat} (hi : δ.lb i) (hκ : κ i = some b) : ∀ j, δ.lr j → κ j ≠ some b := by
  rintro j hj e
  have := r.inj i j b (DS.lb_live hi) (DS.lr_live hj) hκ e
  subst this
  obtain ⟨o, h1, h2⟩ := hi
  have h3 : δ.ob i = some .row := hj
  rw [h1] at h3
  cases h3
  simp [Ob.isRow] at h2

/-! boxes -/
theorem Eff.box {x : Operand} {e : TypeId} {v : AV} (hx : δ.ev x = v) (h1 : AV.ones v.cellsOf = true) (ho : okT x = true) (hd : okD δ.n dst = true) :
    Eff P g ⟨dst, .box e x, ty, pos, af, gd⟩ δ ((δ.addOb (.box v.cellsOf)).putd dst (.ptr δ.nx 0)) := by
  intro κ a w r
  have hr := r.ra hx ho
  obtain ⟨hs, hc⟩ := hr.cells h1
  have hrun : (execOp a.eval ⟨dst, .box e x, ty, pos, af, gd⟩).run P w = .ok (.value (.pointer (some ⟨w.heap.size, 0, none⟩))) (w.alloc (.cells (a.eval x).cells e)) := by
    simp [execOp, Instr.box, newVar, newRow]
  obtain ⟨r', G⟩ := r.grow (.box v.cellsOf) (.cells (a.eval x).cells e) (fun C G hκ => ⟨w.heap.size, _, e, hκ, heap_alloc_new w _, hs, fun j u av h2 h3 => ⟨G.ra (hc j u av h2 h3).1, (hc j u av h2 h3).2⟩⟩)
  refine .inl ⟨_, _, _, _, hrun, .inl rfl, r'.putd (okD_spec hd) ?_⟩
  exact .ptr ⟨_, by show (δ.addOb _).ob _ = _; rw [ob_addOb, if_pos rfl], rfl⟩ (by show upd _ _ _ _ = _; simp [upd])

def zeroAV (P : Program) (e : TypeId) : Option (List AV) := ((P.info? e).bind (·.zero)).map fun z => z.cells.toList.map fun v => .pv (.lit v)

theorem Eff.alloc {e : TypeId} {z : Value} (hz : (P.info? e).bind (·.zero) = some z) (h1 : z.cells.toList.all (·.oneCell') = true) (hd : okD δ.n dst = true) :
    Eff P g ⟨dst, .alloc e, ty, pos, af, gd⟩ δ ((δ.addOb (.box (z.cells.toList.map fun v => .pv (.lit v)))).putd dst (.ptr δ.nx 0)) := by
  intro κ a w r
  have hrun : (execOp a.eval ⟨dst, .alloc e, ty, pos, af, gd⟩).run P w = .ok (.value (.pointer (some ⟨w.heap.size, 0, none⟩))) (w.alloc (.cells z.cells e)) := by
    cases hi : P.info? e with
    | none => rw [hi] at hz; simp at hz
    | some i => rw [hi] at hz; simp at hz; simp [execOp, Instr.alloc, zeroValue, typeInfo, hi, hz, newVar, newRow]
  obtain ⟨r', G⟩ := r.grow (.box (z.cells.toList.map fun v => .pv (.lit v))) (.cells z.cells e) (fun C G hκ => ⟨w.heap.size, _, e, hκ, heap_alloc_new w _, by simp, fun j u av h2 h3 => by
    simp only [List.getElem?_map, Option.map_eq_some_iff] at h3
    obtain ⟨v, h3, rfl⟩ := h3
    have : v = u := by have := h2; rw [← Array.getElem?_toList, h3] at this; exact Option.some.inj this
    subst this
    exact ⟨.pv (.lit _), by simpa using (List.all_eq_true.1 h1) _ (List.mem_of_getElem? h3)⟩⟩)
  refine .inl ⟨_, _, _, _, hrun, .inl rfl, r'.putd (okD_spec hd) ?_⟩
  exact .ptr ⟨_, by show (δ.addOb _).ob _ = _; rw [ob_addOb, if_pos rfl], rfl⟩ (by show upd _ _ _ _ = _; simp [upd])

/-! the same, as operations -/
theorem AOps.box {x : Operand} {e : TypeId} {v : AV} (hx : δ.ev x = v) (h1 : AV.ones v.cellsOf = true) (ho : okT x = true) (hd : okD δ.n dst = true)
    (hK : AOps .plain P g ops rest Q ((δ.addOb (.box v.cellsOf)).putd dst (.ptr δ.nx 0))) : AOps .plain P g ops (⟨dst, .box e x, ty, pos, af, none⟩ :: rest) Q δ := AOps.eff rfl rfl (Eff.box hx h1 ho hd) hK
theorem AOps.alloc {e : TypeId} {z : Value} (hz : (P.info? e).bind (·.zero) = some z) (h1 : z.cells.toList.all (·.oneCell') = true) (hd : okD δ.n dst = true)
    (hK : AOps .plain P g ops rest Q ((δ.addOb (.box (z.cells.toList.map fun v => .pv (.lit v)))).putd dst (.ptr δ.nx 0))) : AOps .plain P g ops (⟨dst, .alloc e, ty, pos, af, none⟩ :: rest) Q δ := AOps.eff rfl rfl (Eff.alloc hz h1 hd) hK

/-! fields' addresses -/
theorem run_fieldAddr {s : TypeId} {x : Operand} {f b off : Nat} {fs : Array Field} {fld : Field} (hs : P.underlying s = some (.struct fs)) (hf : fs[f]? = some fld) (hz : ((P.info? fld.type).map fun i => Nat.blt 0 i.size) = some true)
    {ρ : Operand → Value} (hx : ρ x = .pointer (some ⟨b, off, none⟩)) (w : World) : (execOp ρ ⟨dst, .fieldAddr s x f, ty, pos, af, none⟩).run P w = .ok (.value (.pointer (some ⟨b, off + fld.offset, none⟩))) w := by
  cases hi : P.info? fld.type with
  | none => rw [hi] at hz; simp at hz
  | some i =>
    rw [hi] at hz
    have hn : i.size ≠ 0 := by simp at hz; omega
    simp [execOp, Instr.fieldAt, Instr.sureAddr, run_underlying hs, hf, hx, fieldPlace, sizeOf, typeInfo, hi, hn, addr_add]

theorem AOps.fieldAddr {s : TypeId} {x : Operand} {f i off : Nat} {fs : Array Field} {fld : Field} (hx : δ.ev x = .ptr i off) (hs : P.underlying s = some (.struct fs)) (hf : fs[f]? = some fld) (hz : ((P.info? fld.type).map fun i => Nat.blt 0 i.size) = some true) (ho : okT x = true) (hd : okD δ.n dst = true)
    (hK : AOps q P g ops rest Q (δ.putd dst (.ptr i (off + fld.offset)))) : AOps q P g ops (⟨dst, .fieldAddr s x f, ty, pos, af, none⟩ :: rest) Q δ :=
  AOps.valw _ hd (fun κ a w r => by
    have h1 := r.ra hx ho
    generalize hu : a.eval x = u at h1
    cases h1 with
    | ptr hl hκ => exact ⟨_, fun w' _ => run_fieldAddr hs hf hz hu w', .ptr hl hκ⟩) hK
theorem AOps.fieldAddr_r {s : TypeId} {x : Operand} {f n : Nat} {cs : List PV} {fs : Array Field} {fld : Field} (hx : δ.ev x = .rptr cs) (hs : P.underlying s = some (.struct fs)) (hf : fs[f]? = some fld) (hz : ((P.info? fld.type).map fun i => Nat.blt 0 i.size) = some true)
    (hn : (P.info? fld.type).map (·.size) = some n) (ho : okT x = true) (hd : okD δ.n dst = true)
    (hK : AOps q P g ops rest Q (δ.putd dst (.rptr ((cs.drop fld.offset).take n)))) : AOps q P g ops (⟨dst, .fieldAddr s x f, ty, pos, af, none⟩ :: rest) Q δ :=
  AOps.valw _ hd (fun κ a w r => by
    have h1 := r.ra hx ho
    generalize hu : a.eval x = u at h1
    cases h1 with
    | rptr b off vs hN hb hc hr =>
      refine ⟨_, fun w' _ => run_fieldAddr hs hf hz hu w', .rptr b (off + fld.offset) (fun j => vs (fld.offset + j)) hN hb (fun j p h => ?_) (fun j p h => ?_)⟩
      · rw [List.getElem?_take] at h
        split at h
        · rw [List.getElem?_drop] at h; rw [Nat.add_assoc]; exact hc _ p h
        · cases h
      · rw [List.getElem?_take] at h
        split at h
        · rw [List.getElem?_drop] at h; exact hr _ p h
        · cases h) hK

/-! loads from a box -/
theorem AOps.load_b1 {x : Operand} {t : TypeId} {i off : Nat} {cells : List AV} {v : AV} (hx : δ.ev x = .ptr i off) (hb : δ.ob i = some (.box cells)) (hv : cells[off]? = some v) (ht : scalarT P t = true) (ho : okT x = true) (hd : okD δ.n dst = true)
    (hK : AOps q P g ops rest Q (δ.putd dst v)) : AOps q P g ops (⟨dst, .load t x, ty, pos, af, none⟩ :: rest) Q δ :=
  AOps.valw _ hd (fun κ a w r => by
    obtain ⟨b, c, e, h1, h2, h3, h4, h5⟩ := r.box (r.ra hx ho) hb
    have hlt : off < c.size := by rw [h4]; exact (List.getElem?_eq_some_iff.1 hv).1
    exact ⟨c[off], fun w' hw' => run_load_scalar ht h1 ((hw'.cell (ad := ⟨b, off, none⟩) (Array.getElem?_eq_some_iff.1 h3).1 (r.notrow ⟨_, hb, rfl⟩ h2)).trans (by rw [cell_of h3, Array.getElem?_eq_getElem hlt])), (h5 off _ v (Array.getElem?_eq_getElem hlt) hv).1⟩) hK

theorem AOps.load_bn {x : Operand} {t : TypeId} {i off n : Nat} {cells : List AV} (hx : δ.ev x = .ptr i off) (hb : δ.ob i = some (.box cells)) (ht : aggT P t n = true) (hle : Nat.ble (off + n) cells.length = true) (ho : okT x = true) (hd : okD δ.n dst = true)
    (hK : AOps q P g ops rest Q (δ.putd dst (.agg ((cells.drop off).take n)))) : AOps q P g ops (⟨dst, .load t x, ty, pos, af, none⟩ :: rest) Q δ :=
  AOps.valw _ hd (fun κ a w r => by
    obtain ⟨b, c, e, h1, h2, h3, h4, h5⟩ := r.box (r.ra hx ho) hb
    have hle' : off + n ≤ cells.length := by simpa using hle
    refine ⟨_, fun w' hw' => run_load_agg ht h1 (f := fun j => c.getD (off + j) undef) (fun j hj => ?_), .agg (by simp; omega) (fun j u av h7 h8 => ?_)⟩
    · rw [addr_add, hw'.cell (ad := ⟨b, off + j, none⟩) (Array.getElem?_eq_some_iff.1 h3).1 (r.notrow ⟨_, hb, rfl⟩ h2), cell_of h3, Array.getD_eq_getD_getElem?, Array.getElem?_eq_getElem (by omega)]; rfl
    · rw [List.getElem?_take] at h8
      split at h8
      · rw [List.getElem?_drop] at h8
        refine (h5 (off + j) u av ?_ h8).1
        simp only [List.getElem?_toArray, List.getElem?_map, Option.map_eq_some_iff] at h7
        obtain ⟨j', hj', rfl⟩ := h7
        have : j' = j := by
          rw [List.getElem?_eq_some_iff] at hj'
          obtain ⟨_, h⟩ := hj'
          simpa using h.symm
        subst this
        rw [Array.getD_eq_getD_getElem?, Array.getElem?_eq_getElem (by omega)]; rfl
      · cases h8) hK

/-! stores into a box -/
theorem setCell_heap {w : World} {b off : Nat} {c : Array Value} {e : TypeId} (h : w.heap[b]? = some (.cells c e (0, 0))) (u : Value) : (w.setCell ⟨b, off, none⟩ u).heap[b]? = some (.cells (c.setIfInBounds off u) e (0, 0)) := by
  rw [setCell_eq_setRow w b off c e (0, 0) u h]; exact setRow_heap w b c _ e _ h
theorem frozen_of {w : World} {b : Nat} {c : Array Value} {e : TypeId} (h : w.heap[b]? = some (.cells c e (0, 0))) (j : Nat) : w.frozen? ⟨b, j, none⟩ = false := by simp [World.frozen?, h]

theorem Eff.store_b1 {x y : Operand} {t : TypeId} {i off : Nat} {cells : List AV} {v : AV} (hx : δ.ev x = .ptr i off) (hy : δ.ev y = v) (hb : δ.ob i = some (.box cells)) (hlt : Nat.blt off cells.length = true) (ht : (P.info? t).map (·.size) = some 1) (h1 : v.one = true) (ho : okT x = true) (ho' : okT y = true) (hd : okD δ.n dst = true) (hwk : g.wtOk i) :
    Eff P g ⟨dst, .store t x y, ty, pos, af, gd⟩ δ ((δ.setOb i (some (.box (cells.set off v)))).putd dst .any) := by
  intro κ a w r
  obtain ⟨b, c, e, hv, hκ, h3, h4, h5⟩ := r.box (r.ra hx ho) hb
  have hlt' : off < cells.length := by simpa using hlt
  have hyv := r.ra hy ho'
  have hone := hyv.one h1
  have hrun : (execOp a.eval ⟨dst, .store t x y, ty, pos, af, gd⟩).run P w = .ok .skip (w.setCell ⟨b, off, none⟩ (a.eval y)) := by
    obtain ⟨i0, hi0, hs0⟩ : ∃ i0, P.info? t = some i0 ∧ i0.size = 1 := by
      cases h : P.info? t with
      | none => rw [h] at ht; simp at ht
      | some i0 => rw [h] at ht; exact ⟨i0, rfl, by simpa using ht⟩
    have hc : w.cell? ⟨b, off, none⟩ = some c[off] := by rw [cell_of h3, Array.getElem?_eq_getElem (by omega)]
    have hst : (store ⟨b, off, none⟩ (a.eval y)).run P w = .ok () (w.setCell ⟨b, off, none⟩ (a.eval y)) := by
      rw [run_store P w _ _ _ hone, hc]; simp [frozen_of h3]
    simp [execOp, Instr.storeAt, Instr.sureAddr, storeVar, hv, cells_one hone, sizeOf, typeInfo, hi0, hs0, storeCells, addr_add, hst]
  obtain ⟨r', G⟩ := r.modify (o' := .box (cells.set off v)) hb rfl rfl hκ hwk (Turns.setCell w ⟨b, off, none⟩ (a.eval y)) (by simp [World.setCell]) (fun C hCκ G => ⟨b, _, e, by rw [hCκ]; exact hκ, setCell_heap h3 _, by simpa using h4, fun j u av h6 h7 => by
    rw [Array.getElem?_setIfInBounds] at h6
    rw [List.getElem?_set] at h7
    by_cases ej : off = j
    · rw [if_pos ej] at h6 h7
      rw [if_pos (by omega)] at h6
      rw [if_pos (by omega)] at h7
      cases h6; cases h7
      exact ⟨G.ra hyv, hone⟩
    · rw [if_neg ej] at h6 h7
      exact ⟨G.ra (h5 j u av h6 h7).1, (h5 j u av h6 h7).2⟩⟩)
  exact .inl ⟨_, _, _, _, hrun, .inr ⟨rfl, rfl⟩, r'.putd (okD_spec hd) (.any _)⟩

theorem Eff.store_bn {x y : Operand} {t : TypeId} {i : Nat} {cells cs : List AV} (hx : δ.ev x = .ptr i 0) (hy : δ.ev y = .agg cs) (hb : δ.ob i = some (.box cells)) (hlen : cells.length = cs.length) (ht : (P.info? t).map (·.size) = some cs.length) (h1 : AV.ones cs = true) (ho : okT x = true) (ho' : okT y = true) (hd : okD δ.n dst = true) (hwk : g.wtOk i) :
    Eff P g ⟨dst, .store t x y, ty, pos, af, gd⟩ δ ((δ.setOb i (some (.box cs))).putd dst .any) := by
  intro κ a w r
  obtain ⟨b, c, e, hv, hκ, h3, h4, h5⟩ := r.box (r.ra hx ho) hb
  obtain ⟨hsz, hcs⟩ := (r.ra hy ho').cells h1
  simp only [AV.cellsOf] at hsz hcs
  have hall : ∀ u ∈ (a.eval y).cells.toList, u.oneCell' = true := by
    intro u hu
    obtain ⟨j, hj⟩ := List.getElem?_of_mem hu
    have hlt : j < cs.length := by rw [← hsz]; have := (List.getElem?_eq_some_iff.1 hj).1; simpa using this
    exact (hcs j u _ (by simpa using hj) (List.getElem?_eq_getElem hlt)).2
  have hst := run_storeCells_at P b 0 e (a.eval y).cells.toList 0 c w h3 (by simp; omega) hall
  have hrow : (c.toList.take (0 + 0) ++ (a.eval y).cells.toList ++ c.toList.drop (0 + 0 + (a.eval y).cells.toList.length)).toArray = (a.eval y).cells := by
    have : c.toList.drop (0 + 0 + (a.eval y).cells.toList.length) = [] := List.drop_eq_nil_of_le (by simp; omega)
    rw [this]; simp
  rw [hrow] at hst
  have hrun : (execOp a.eval ⟨dst, .store t x y, ty, pos, af, gd⟩).run P w = .ok .skip (w.setRow b (a.eval y).cells) := by
    obtain ⟨i0, hi0, hs0⟩ : ∃ i0, P.info? t = some i0 ∧ i0.size = cs.length := by
      cases h : P.info? t with
      | none => rw [h] at ht; simp at ht
      | some i0 => rw [h] at ht; exact ⟨i0, rfl, by simpa using ht⟩
    simp [execOp, Instr.storeAt, Instr.sureAddr, storeVar, hv, hsz, sizeOf, typeInfo, hi0, hs0, hst]
  obtain ⟨r', G⟩ := r.modify (o' := .box cs) hb rfl rfl hκ hwk (Turns.setRow w b (a.eval y).cells) (by simp) (fun C hCκ G => ⟨b, _, e, by rw [hCκ]; exact hκ, setRow_heap w b c _ e _ h3, hsz, fun j u av h6 h7 => ⟨G.ra (hcs j u av h6 h7).1, (hcs j u av h6 h7).2⟩⟩)
  exact .inl ⟨_, _, _, _, hrun, .inr ⟨rfl, rfl⟩, r'.putd (okD_spec hd) (.any _)⟩

theorem AOps.store_b1 {x y : Operand} {t : TypeId} {i off : Nat} {cells : List AV} {v : AV} (hx : δ.ev x = .ptr i off) (hy : δ.ev y = v) (hb : δ.ob i = some (.box cells)) (hlt : Nat.blt off cells.length = true) (ht : (P.info? t).map (·.size) = some 1) (h1 : v.one = true) (ho : okT x = true) (ho' : okT y = true) (hd : okD δ.n dst = true) (hwt : g.wt = none)
    (hK : AOps .plain P g ops rest Q ((δ.setOb i (some (.box (cells.set off v)))).putd dst .any)) : AOps .plain P g ops (⟨dst, .store t x y, ty, pos, af, none⟩ :: rest) Q δ := AOps.eff rfl rfl (Eff.store_b1 hx hy hb hlt ht h1 ho ho' hd (wtOk_none hwt i)) hK
theorem AOps.store_bn {x y : Operand} {t : TypeId} {i : Nat} {cells cs : List AV} (hx : δ.ev x = .ptr i 0) (hy : δ.ev y = .agg cs) (hb : δ.ob i = some (.box cells)) (hlen : cells.length = cs.length) (ht : (P.info? t).map (·.size) = some cs.length) (h1 : AV.ones cs = true) (ho : okT x = true) (ho' : okT y = true) (hd : okD δ.n dst = true) (hwt : g.wt = none)
    (hK : AOps .plain P g ops rest Q ((δ.setOb i (some (.box cs))).putd dst .any)) : AOps .plain P g ops (⟨dst, .store t x y, ty, pos, af, none⟩ :: rest) Q δ := AOps.eff rfl rfl (Eff.store_bn hx hy hb hlen ht h1 ho ho' hd (wtOk_none hwt i)) hK

/-! aggregates by value -/
theorem AOps.field1 {s : TypeId} {x : Operand} {f : Nat} {cs : List AV} {v : AV} {fs : Array Field} {fld : Field} (hx : δ.ev x = .agg cs) (hs : P.underlying s = some (.struct fs)) (hf : fs[f]? = some fld) (ht : scalarT P fld.type = true) (hv : cs[fld.offset]? = some v) (ho : okT x = true) (hd : okD δ.n dst = true)
    (hK : AOps q P g ops rest Q (δ.putd dst v)) : AOps q P g ops (⟨dst, .field s x f, ty, pos, af, none⟩ :: rest) Q δ :=
  AOps.valw _ hd (fun κ a w r => by
    have h1 := r.ra hx ho
    generalize hu : a.eval x = u at h1
    cases h1 with
    | @agg us _ hsz h =>
      have hlt : fld.offset < us.size := by rw [hsz]; exact (List.getElem?_eq_some_iff.1 hv).1
      exact ⟨us[fld.offset], fun w' _ => by simp [execOp, Instr.field, run_underlying hs, hf, hu, asAgg, part, run_isAgg_scalar ht, Array.getElem?_eq_getElem hlt], h _ _ v (Array.getElem?_eq_getElem hlt) hv⟩) hK
theorem AOps.fieldn {s : TypeId} {x : Operand} {f n : Nat} {cs : List AV} {fs : Array Field} {fld : Field} (hx : δ.ev x = .agg cs) (hs : P.underlying s = some (.struct fs)) (hf : fs[f]? = some fld) (ht : aggT P fld.type n = true) (hle : Nat.ble (fld.offset + n) cs.length = true) (ho : okT x = true) (hd : okD δ.n dst = true)
    (hK : AOps q P g ops rest Q (δ.putd dst (.agg ((cs.drop fld.offset).take n)))) : AOps q P g ops (⟨dst, .field s x f, ty, pos, af, none⟩ :: rest) Q δ :=
  AOps.valw _ hd (fun κ a w r => by
    have h1 := r.ra hx ho
    generalize hu : a.eval x = u at h1
    cases h1 with
    | @agg us _ hsz h =>
      have hle' : fld.offset + n ≤ cs.length := by simpa using hle
      refine ⟨.agg (us.extract fld.offset (fld.offset + n)), fun w' _ => by simp [execOp, Instr.field, run_underlying hs, hf, hu, asAgg, part, run_isAgg_agg ht], .agg (by simp; omega) (fun j u c h1 h2 => ?_)⟩
      rw [List.getElem?_take] at h2
      split at h2
      · rw [List.getElem?_drop] at h2
        rw [Array.getElem?_extract] at h1
        split at h1
        · exact h _ u c h1 h2
        · cases h1
      · cases h2) hK

end Go.Ab
