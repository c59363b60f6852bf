/- Aggregates and slices that are built; rows that grow. -/
import Derived.Test.YthahkdmlcgfpcaaAbMem2
set_option linter.unusedSimpArgs false
set_option linter.unusedVariables false
namespace Go.Ab
open Go Go.RowKit
variable {q : Md} {P : Program} {g : Ghost} {δ : DS} {κ : Nat → Option Nat} {a : Act} {w : World}
variable {ops : Array Oper} {rest : List Oper} {Q : Exit → DS → Prop} {dst : Option Nat} {ty : TypeId} {pos : String} {af : Array Edge}

def setsA : List AV → Nat → List AV → List AV
  | cells, _, [] => cells
  | cells, off, v :: vs => setsA (cells.set off v) (off + 1) vs
def fillA (place : Nat → Option (Nat × Nat)) : List AV → List (Nat × AV) → Option (List AV)
  | cells, [] => some cells
  | cells, (i, v) :: rest =>
    match place i with
    | none => none
    | some (off, size) => bif Nat.beq v.cellsOf.length size && Nat.ble (off + v.cellsOf.length) cells.length && AV.ones v.cellsOf then fillA place (setsA cells off v.cellsOf) rest else none

/-- cells in an array, told one by one. -/
def Cells (C : Cx) (w : World) (c : Array Value) (l : List AV) : Prop := c.size = l.length ∧ ∀ (j : Nat) (u : Value) (av : AV), c[j]? = some u → l[j]? = some av → RA C w u av ∧ u.oneCell' = true

theorem Cells.set {C : Cx} {w : World} {c : Array Value} {l : List AV} (h : Cells C w c l) (i : Nat) {u : Value} {v : AV} (hu : RA C w u v ∧ u.oneCell' = true) : Cells C w (c.setIfInBounds i u) (l.set i v) := by
  refine ⟨by simpa using h.1, fun j x y h1 h2 => ?_⟩
  rw [Array.getElem?_setIfInBounds] at h1
  rw [List.getElem?_set] at h2
  by_cases e : i = j
  · rw [if_pos e] at h1 h2
    split at h1
    · rename_i hlt
      rw [if_pos (by have := h.1; omega)] at h2
      cases h1; cases h2; exact hu
    · cases h1
  · rw [if_neg e] at h1 h2; exact h.2 j x y h1 h2

theorem foldl_sets {C : Cx} {w : World} : ∀ (us : List Value) (vs : List AV) (off k : Nat) (c : Array Value) (l : List AV), us.length = vs.length →
    (∀ (j : Nat) (u : Value) (v : AV), us[j]? = some u → vs[j]? = some v → RA C w u v ∧ u.oneCell' = true) → Cells C w c l →
    Cells C w ((us.zipIdx k).foldl (fun cs x => cs.setIfInBounds (off + x.2) x.1) c) (setsA l (off + k) vs)
  | [], [], off, k, c, l, _, _, h => h
  | u :: us, v :: vs, off, k, c, l, hl, hv, h => by
    simp only [List.zipIdx_cons, List.foldl_cons, setsA]
    exact foldl_sets us vs off (k + 1) _ _ (by simpa using hl) (fun j x y h1 h2 => hv (j + 1) x y (by simpa using h1) (by simpa using h2)) (h.set (off + k) (hv 0 u v rfl rfl))
  | [], v :: vs, _, _, _, _, hl, _, _ => by simp at hl
  | u :: us, [], _, _, _, _, hl, _, _ => by simp at hl

theorem fill_sound {C : Cx} {w : World} {place place' : Nat → Option (Nat × Nat)} (hp : ∀ i x, place i = some x → place' i = some x) : ∀ (parts : List (Nat × Value)) (avs : List (Nat × AV)) (c : Array Value) (l l' : List AV),
    parts.length = avs.length → (∀ (j : Nat) (x : Nat × Value) (y : Nat × AV), parts[j]? = some x → avs[j]? = some y → x.1 = y.1 ∧ RA C w x.2 y.2) → Cells C w c l → fillA place l avs = some l' →
    ∃ c', Instr.fill place' c parts = some c' ∧ Cells C w c' l'
  | [], [], c, l, l', _, _, h, hf => by simp only [fillA, Option.some.injEq] at hf; subst hf; exact ⟨c, rfl, h⟩
  | (i, u) :: parts, (i', v) :: avs, c, l, l', hl, hv, h, hf => by
    obtain ⟨e, hu⟩ := hv 0 (i, u) (i', v) rfl rfl
    simp only at e hu
    subst e
    simp only [fillA] at hf
    cases hpl : place i with
    | none => rw [hpl] at hf; cases hf
    | some os =>
      obtain ⟨off, size⟩ := os
      rw [hpl] at hf
      simp only at hf
      cases hc : (Nat.beq v.cellsOf.length size && Nat.ble (off + v.cellsOf.length) l.length && AV.ones v.cellsOf) with
      | false => rw [hc] at hf; cases hf
      | true =>
        rw [hc] at hf
        simp only [Bool.and_eq_true] at hc
        obtain ⟨⟨h1, h2⟩, h3⟩ := hc
        have h1' : v.cellsOf.length = size := Nat.eq_of_beq_eq_true h1
        have h2' : off + v.cellsOf.length ≤ l.length := by simpa using h2
        obtain ⟨hs, hcs⟩ := hu.cells h3
        have hcl := foldl_sets (C := C) (w := w) u.cells.toList v.cellsOf off 0 c l (by simpa using hs) (fun j x y h4 h5 => hcs j x y (by simpa using h4) h5) h
        obtain ⟨c', h6, h7⟩ := fill_sound hp parts avs _ _ l' (by simpa using hl) (fun j x y h4 h5 => hv (j + 1) x y (by simpa using h4) (by simpa using h5)) hcl hf
        refine ⟨c', ?_, h7⟩
        unfold Instr.fill
        rw [hp i _ hpl]
        simp only
        rw [if_neg (by simp; refine ⟨by omega, by have := h.1; omega⟩)]
        rw [← h6]
        congr 1
        rw [← Array.foldl_toList, Array.toList_zipIdx]
  | [], _ :: _, _, _, _, hl, _, _, _ => by simp at hl
  | _ :: _, [], _, _, _, hl, _, _, _ => by simp at hl

def placeOf (P : Program) (fs : Array Field) (i : Nat) : Option (Nat × Nat) := (fs[i]?).bind fun f => (P.info? f.type).map fun i => (f.offset, i.size)

theorem run_places (fs : List Field) (w : World) : ∀ (acc : Array (Nat × Nat)), fs.all (fun f => (P.info? f.type).isSome) = true →
    (fs.foldlM (fun (acc : Array (Nat × Nat)) (f : Field) => do let s ← sizeOf f.type; pure (acc.push (f.offset, s))) acc).run P w = .ok (acc ++ (fs.map fun f => (f.offset, ((P.info? f.type).map (·.size)).getD 0)).toArray) w := by
  induction fs with
  | nil => intro acc _; simp
  | cons f fs ih =>
    intro acc h
    simp only [List.all_cons, Bool.and_eq_true] at h
    obtain ⟨i, hi⟩ := Option.isSome_iff_exists.1 h.1
    have := ih (acc.push (f.offset, i.size)) h.2
    simp [List.foldlM_cons, sizeOf, typeInfo, hi] at this ⊢
    rw [this]

theorem AOps.build {t : TypeId} {parts : List (Nat × Operand)} {fs : Array Field} {z : Value} {cells : List AV} (hs : P.underlying t = some (.struct fs)) (hz : (P.info? t).bind (·.zero) = some z) (h1 : z.cells.toList.all (·.oneCell') = true) (hall : fs.toList.all (fun f => (P.info? f.type).isSome) = true)
    (ho : parts.all (fun p => okT p.2) = true) (hf : fillA (placeOf P fs) (z.cells.toList.map fun v => .pv (.lit v)) (parts.map fun p => (p.1, δ.ev p.2)) = some cells) (hd : okD δ.n dst = true)
    (hK : AOps q P g ops rest Q (δ.putd dst (.agg cells))) : AOps q P g ops (⟨dst, .build t parts.toArray, ty, pos, af, none⟩ :: rest) Q δ :=
  AOps.valw _ hd (fun κ a w r => by
    obtain ⟨i0, hi0, hz0⟩ : ∃ i0, P.info? t = some i0 ∧ i0.zero = some z := by
      cases h : P.info? t with
      | none => rw [h] at hz; simp at hz
      | some i0 => rw [h] at hz; exact ⟨i0, rfl, by simpa using hz⟩
    have hpl := fun w1 => run_places (P := P) fs.toList w1 #[] hall
    obtain ⟨c', h2, h3⟩ := fill_sound (C := δ.cx g κ) (w := w) (place := placeOf P fs) (place' := fun i => ((#[] : Array (Nat × Nat)) ++ (fs.toList.map fun f => (f.offset, ((P.info? f.type).map (·.size)).getD 0)).toArray)[i]?)
      (fun i x h => by
        unfold placeOf at h
        cases hfi : fs[i]? with
        | none => rw [hfi] at h; simp at h
        | some f =>
          rw [hfi] at h
          simp only [Option.bind_some, Option.map_eq_some_iff] at h
          obtain ⟨ii, h4, rfl⟩ := h
          simp [hfi, h4])
      (parts.map fun p => (p.1, a.eval p.2)) (parts.map fun p => (p.1, δ.ev p.2)) z.cells _ cells (by simp) (fun j x y h4 h5 => by
        simp only [List.getElem?_map, Option.map_eq_some_iff] at h4 h5
        obtain ⟨p, h6, rfl⟩ := h4
        obtain ⟨p', h7, rfl⟩ := h5
        rw [h6] at h7; cases h7
        exact ⟨rfl, r.evc p.2 (okT_spec (by simpa using (List.all_eq_true.1 ho) p (List.mem_of_getElem? h6)))⟩)
      ⟨by simp, fun j u av h4 h5 => by
        simp only [List.getElem?_map, Option.map_eq_some_iff] at h5
        obtain ⟨v, h5, rfl⟩ := h5
        have : v = u := by have := h4; rw [← Array.getElem?_toList, h5] at this; exact Option.some.inj this
        subst this
        exact ⟨.pv (.lit _), by simpa using (List.all_eq_true.1 h1) _ (List.mem_of_getElem? h5)⟩⟩ hf
    refine ⟨.agg c', fun w1 _ => ?_, .agg h3.1 fun j u c h4 h5 => (h3.2 j u c h4 h5).1⟩
    have hmap : (fs.mapM fun (f : Field) => (do pure (f.offset, ← sizeOf f.type) : Sem (Nat × Nat))) = fs.toList.foldlM (fun (acc : Array (Nat × Nat)) (f : Field) => do let s ← sizeOf f.type; pure (acc.push (f.offset, s))) #[] := by
      rw [Array.mapM_eq_foldlM, ← Array.foldlM_toList]
      congr 1
      funext acc f
      simp
    have hzr : ∀ w, (zeroValue t).run P w = .ok z w := fun w => by simp [zeroValue, typeInfo, hi0, hz0]
    simp only [execOp, Instr.build, Sem.run_bind, hzr, Result.andThen_ok, run_underlying hs, hmap, hpl, List.map_toArray, h2, Sem.run_pure]) hK

end Go.Ab
