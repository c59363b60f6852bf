/- The address of an array's element. -/
import Derived.Test.YthahkdmlcgfpcaaAbCut
set_option linter.unusedSimpArgs false
set_option linter.unusedVariables false
namespace Go.Ab
open Go Go.RowKit
variable {P : Program} {g : Ghost} {δ : DS} {q : Md}
variable {ops : Array Oper} {rest : List Oper} {Q : Exit → DS → Prop} {dst : Option Nat} {ty : TypeId} {pos : String} {af : Array Edge}
/-- type t is an array whose elements have k cells, and n is one of its places. -/
def arrB (P : Program) (t : TypeId) (n k : Nat) : Bool := match P.underlying t with
  | some (.array len e) => Nat.blt n len && ((P.info? e).map (·.size) == some k)
  | _ => false
theorem arrB_spec {t : TypeId} {n k : Nat} (h : arrB P t n k = true) : ∃ len e, P.underlying t = some (.array len e) ∧ n < len ∧ (P.info? e).map (·.size) = some k := by
  unfold arrB at h
  split at h
  · rename_i len e he
    simp only [Bool.and_eq_true, beq_iff_eq] at h
    exact ⟨len, e, he, by simpa using h.1, h.2⟩
  · cases h
theorem run_indexAddr_arr {t : TypeId} {k n : Nat} (hB : arrB P t n k = true) {x y : Operand} {ρ : Operand → Value} {b off : Nat} {ik : IntKind}
    (hx : ρ x = .pointer (some ⟨b, off, none⟩)) (hy : ρ y = .int ik (n : Int)) (w : World) :
    (execOp ρ ⟨dst, .indexAddr t x y, ty, pos, af, none⟩).run P w = .ok (.value (.pointer (some ⟨b, off + n * k, none⟩))) w := by
  obtain ⟨len, e, ht, hn, hk⟩ := arrB_spec hB
  obtain ⟨i0, hi0, hk0⟩ : ∃ i0, P.info? e = some i0 ∧ i0.size = k := by
    cases h : P.info? e with
    | none => rw [h] at hk; simp at hk
    | some i0 => rw [h] at hk; exact ⟨i0, rfl, by simpa using hk⟩
  have h1 : (0 : Int) ≤ n ∧ (n : Int) < len := by omega
  have hadd : (⟨b, off, none⟩ : Addr).add (n * k) = ⟨b, off + n * k, none⟩ := by unfold Addr.add; split <;> simp_all
  simp [execOp, Instr.indexAt, Instr.sureAddr, asIntOf, run_underlying ht, hx, hy, h1, sizeOf, typeInfo, hi0, hk0, hadd]
  intro h; omega
theorem AOps.indexA_r (t n k m : Nat) {x y : Operand} {cs : List PV} {ik : IntKind} (hx : δ.ev x = .rptr cs) (hy : δ.ev y = .pv (.lit (.int ik (n : Int)))) (hB : arrB P t n k = true) (hm : Nat.beq (n * k) m = true) (ho : okT x = true) (ho' : okT y = true) (hd : okD δ.n dst = true)
    (hK : AOps q P g ops rest Q (δ.putd dst (.rptr (subP cs m k)))) : AOps q P g ops (⟨dst, .indexAddr t x y, ty, pos, af, none⟩ :: rest) Q δ :=
  AOps.valw _ hd (fun κ a w r => by
    obtain rfl := Nat.eq_of_beq_eq_true hm
    have h1 := r.ra hx ho
    generalize hu : a.eval x = u at h1
    cases h1 with
    | rptr b off vs hN hb hc hr =>
      refine ⟨_, fun w' _ => run_indexAddr_arr hB hu (r.lit hy ho') w', .rptr b (off + n * k) (fun j => vs (n * k + j)) hN hb (fun j p h => ?_) (fun j p h => ?_)⟩
      · rw [← subP_eq, List.getElem?_take] at h
        split at h
        · rw [List.getElem?_drop] at h; rw [Nat.add_assoc]; exact hc _ p h
        · cases h
      · rw [← subP_eq, List.getElem?_take] at h
        split at h
        · rw [List.getElem?_drop] at h; exact hr _ p h
        · cases h) hK
theorem AOps.indexA_p (t n k m : Nat) {x y : Operand} {i off : Nat} {ik : IntKind} (hx : δ.ev x = .ptr i off) (hy : δ.ev y = .pv (.lit (.int ik (n : Int)))) (hB : arrB P t n k = true) (hm : Nat.beq (off + n * k) m = true) (ho : okT x = true) (ho' : okT y = true) (hd : okD δ.n dst = true)
    (hK : AOps q P g ops rest Q (δ.putd dst (.ptr i m))) : AOps q P g ops (⟨dst, .indexAddr t x y, ty, pos, af, none⟩ :: rest) Q δ :=
  AOps.valw _ hd (fun κ a w r => by
    obtain rfl := Nat.eq_of_beq_eq_true hm
    have h1 := r.ra hx ho
    generalize hu : a.eval x = u at h1
    cases h1 with
    | ptr hl hκ => exact ⟨_, fun w' _ => run_indexAddr_arr hB hu (r.lit hy ho') w', .ptr hl hκ⟩) hK
theorem AOps.index_own_mapN {α : Type} {x y : Operand} {t e e' : TypeId} {i k n : Nat} {f : α → List PV} {l : List α} (hx : δ.ev x = .own i e' k (l.map f)) (hy : δ.ev y = litI (n : Nat))
    (ht : P.underlying t = some (.slice e)) (hk : (P.info? e).map (·.size) = some k) (ho : okT x = true) (ho' : okT y = true) (hd : okD δ.n dst = true) (hn : n < l.length)
    (hK : AOps q P g ops rest Q (δ.putd dst (.optr i e' k (l.map f) n))) : AOps q P g ops (⟨dst, .indexAddr t x y, ty, pos, af, none⟩ :: rest) Q δ :=
  AOps.index_own (n := n) hx hy (by simp; omega) ht hk ho ho' hd hK
end Go.Ab
