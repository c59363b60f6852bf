/- The address of an array's element. -/
import Derived.Test.YthahkdmlcgfpcaaAbCut
set_option linter.unusedSimpArgs false
set_option linter.unusedVariables false
namespace Go.Ab
open Go Go.RowKit
variable {P : Program} {g : Ghost} {δ : DS} {q : Md}
variable {ops : Array Oper} {rest : List Oper} {Q : Exit → DS → Prop} {dst : Option Nat} {ty : TypeId} {pos : String} {af : Array Edge}
/-- type t is an array whose elements have k cells, and n is one of its places. -/
def arrB (P : Program) (t : TypeId) (n k : Nat) : Bool := match P.underlying t with
  | some (.array len e) => Nat.blt n len && ((P.info? e).map (·.size) == some k)
  | _ => false
theorem arrB_spec {t : TypeId} {n k : Nat} (h : arrB P t n k = true) : ∃ len e, P.underlying t = some (.array len e) ∧ n < len ∧ (P.info? e).map (·.size) = some k := by
  unfold arrB at h
  split at h
  · rename_i len e he
    simp only [Bool.and_eq_true, beq_iff_eq] at h
    exact ⟨len, e, he, by simpa using h.1, h.2⟩
  · cases h
theorem run_indexAddr_arr {t : TypeId} {k n : Nat} (hB : arrB P t n k = true) {x y : Operand} {ρ : Operand → Value} {b off : Nat} {ik : IntKind}
    (hx : ρ x = .pointer (some ⟨b, off, none⟩)) (hy : ρ y = .int ik (n : Int)) (w : World) :
    (execOp ρ ⟨dst, .indexAddr t x y, ty, pos, af, none⟩).run P w = .ok (.value (.pointer (some ⟨b, off + n * k, none⟩))) w := by
  obtain ⟨len, e, ht, hn, hk⟩ := arrB_spec hB
  obtain ⟨i0, hi0, hk0⟩ : ∃ i0, P.info? e = some i0 ∧ i0.size = k := by
    cases h : P.info? e with
    | none => rw [h] at hk; simp at hk
    | some i0 => rw [h] at hk; exact ⟨i0, rfl, by simpa using hk⟩
  have h1 : (0 : Int) ≤ n ∧ (n : Int) < len := by omega
  have hadd : (⟨b, off, none⟩ : Addr).add (n * k) = ⟨b, off + n * k, none⟩ := by unfold Addr.add; split <;> simp_all
  simp [execOp, Instr.indexAt, Instr.sureAddr, asIntOf, run_underlying ht, hx, hy, h1, sizeOf, typeInfo, hi0, hk0, hadd]
  intro h; omega
theorem AOps.indexA_r (t n k m : Nat) {x y : Operand} {cs : List PV} {ik : IntKind} (hx : δ.ev x = .rptr cs) (hy : δ.ev y = .pv (.lit (.int ik (n : Int)))) (hB : arrB P t n k = true) (hm : Nat.beq (n * k) m = true) (ho : okT x = true) (ho' : okT y = true) (hd : okD δ.n dst = true)
    (hK : AOps q P g ops rest Q (δ.putd dst (.rptr (subP cs m k)))) : AOps q P g ops (⟨dst, .indexAddr t x y, ty, pos, af, none⟩ :: rest) Q δ :=
  AOps.valw _ hd (fun κ a w r => by
    obtain rfl := Nat.eq_of_beq_eq_true hm
    have h1 := r.ra hx ho
    generalize hu : a.eval x = u at h1
    cases h1 with
    | rptr b off vs hN hb hc hr =>
      refine ⟨_, fun w' _ => run_indexAddr_arr hB hu (r.lit hy ho') w', .rptr b (off + n * k) (fun j => vs (n * k + j)) hN hb (fun j p h => ?_) (fun j p h => ?_)⟩
      · rw [← subP_eq, List.getElem?_take] at h
        split at h
        · rw [List.getElem?_drop] at h; rw [Nat.add_assoc]; exact hc _ p h
        · cases h
      · rw [← subP_eq, List.getElem?_take] at h
        split at h
        · rw [List.getElem?_drop] at h; exact hr _ p h
        · cases h) hK
theorem AOps.indexA_p (t n k m : Nat) {x y : Operand} {i off : Nat} {ik : IntKind} (hx : δ.ev x = .ptr i off) (hy : δ.ev y = .pv (.lit (.int ik (n : Int)))) (hB : arrB P t n k = true) (hm : Nat.beq (off + n * k) m = true) (ho : okT x = true) (ho' : okT y = true) (hd : okD δ.n dst = true)
    (hK : AOps q P g ops rest Q (δ.putd dst (.ptr i m))) : AOps q P g ops (⟨dst, .indexAddr t x y, ty, pos, af, none⟩ :: rest) Q δ :=
  AOps.valw _ hd (fun κ a w r => by
    obtain rfl := Nat.eq_of_beq_eq_true hm
    have h1 := r.ra hx ho
    generalize hu : a.eval x = u at h1
    cases h1 with
    | ptr hl hκ => exact ⟨_, fun w' _ => run_indexAddr_arr hB hu (r.lit hy ho') w', .ptr hl hκ⟩) hK
theorem AOps.index_own_mapN {α : Type} {x y : Operand} {t e e' : TypeId} {i k n : Nat} {f : α → List PV} {l : List α} (hx : δ.ev x = .own i e' k (l.map f)) (hy : δ.ev y = litI (n : Nat))
    (ht : P.underlying t = some (.slice e)) (hk : (P.info? e).map (·.size) = some k) (ho : okT x = true) (ho' : okT y = true) (hd : okD δ.n dst = true) (hn : n < l.length)
    (hK : AOps q P g ops rest Q (δ.putd dst (.optr i e' k (l.map f) n))) : AOps q P g ops (⟨dst, .indexAddr t x y, ty, pos, af, none⟩ :: rest) Q δ :=
  AOps.index_own (n := n) hx hy (by simp; omega) ht hk ho ho' hd hK
end Go.Ab
namespace Go.Ab
open Go Go.RowKit
attribute [local irreducible] HS
variable {P : Program} {g : Ghost} {δ : DS} {l : List Oper} {late dn : List Nat} {k : Wt} {QD : Exit → DS → Prop}
/-- an operation under a guard that is known not to hold, passed over first. -/
theorem AR.skipG (i : Nat) {o o' : Oper} {gj d : Nat} {want : Bool} (hB : freeB l late dn i = true) (ho : l[i]? = some o) (hg : o.guard = some (gj, want)) (ho' : l[gj]? = some o') (hd' : o'.dst = some d) (hd0 : Nat.blt d HS = true) (hdn : Nat.blt d δ.n = true) (hb : δ.get d = litB (!want))
    (hd : okD δ.n o.dst = true) (h : AR P g k late l QD (i :: dn) (δ.putd o.dst (.pv (.lit undef)))) : AR P g k late l QD dn δ := by
  intro hdc κ a w r
  simp only [freeB, Bool.and_eq_true, Bool.not_eq_true'] at hB
  obtain ⟨⟨⟨⟨⟨hs, hnd⟩, hr⟩, hf⟩, hla⟩, hl⟩ := hB
  have hl' : dn.length < l.length := by simpa using hl
  obtain ⟨n, hn⟩ : ∃ n, l.length - dn.length = n + 1 := ⟨l.length - dn.length - 1, by omega⟩
  have hr' : i ∈ Region.ready .any l.toArray (setL l.length dn) := by simpa using hr
  have ho'' : l.toArray[i]? = some o := by simpa using ho
  have hdc' : DC l.toArray (setL l.length (i :: dn)) := hdc.ready hr'
  have r2 : Rel (gOf g k late (setL l.length (i :: dn))) (δ.putd o.dst (.pv (.lit undef))) κ (a.put o.dst undef) w := (gOf_step i r).putd (okD_spec hd) (.pv (.lit _))
  have h2 := h hdc' κ _ w r2
  have e1 : l.length - (i :: dn).length = n := by simp; omega
  rw [e1] at h2
  rw [hn]
  have hlt : d < HS := by simpa using hd0
  have hln : d < δ.n := by simpa using hdn
  have hv : a.tmps.getD d undef = .bool (!want) := by
    have := r.env d
    rw [hb] at this
    unfold Ghost.val at this
    rw [if_pos hlt] at this
    exact this.lit
  have hv' : a.tmps[d]? = some (.bool (!want)) := by
    rw [← r.n] at hln
    rw [Array.getD_eq_getD_getElem?, Array.getElem?_eq_getElem hln] at hv
    rw [Array.getElem?_eq_getElem hln]
    exact congrArg some hv
  have hyi : yielded l.toArray a.tmps gj = some (!want) := by
    simp [yielded, ho', hd', hv']
  refine wpAnyL_first (C := fun _ => True) ho'' (Region.noSelect_spec hs) (fun j o hj => ?_) (fun c a w h => h.elim) (fun _ _ _ _ _ => trivial) (fun listed w => ?_) n _ a w hdc (Region.free_spec ho'' hf) hr' (.inr ⟨by simp [Region.wanted, hg, hyi], rfl⟩) (gOf_S r) h2
  · exact (List.all_eq_true.1 hnd) o (List.mem_of_getElem? (by simpa using hj))
  · unfold Sof; rw [lateIn_set hla]
end Go.Ab
