/- Weakening: maps told as sets, loops. -/
import Derived.Test.YthahkdmlcgfpcaaAbRange2
set_option linter.unusedSimpArgs false
set_option linter.unusedVariables false
namespace Go.Ab
open Go Go.RowKit
variable {δ δ' : DS} {i : Nat}
theorem setI_ids {lr lb : Nat → Bool} (xs : List Int) : ∀ p ∈ mpI (setI xs), p.2.ids lr lb = true := by
  intro p hp
  unfold mpI setI at hp
  simp only [List.map_map, List.mem_map] at hp
  obtain ⟨x, _, rfl⟩ := hp
  rfl
theorem WO.set {xs : List Int} (h : δ.ob i = some (.mp (mpI (setI xs)))) : WO δ δ' i (.mp (mpI (setI xs))) := .mp h (setI_ids xs)
theorem WO.setE {xs ys : List Int} (h : δ.ob i = some (.mp (mpI (setI xs)))) (e : xs = ys) : WO δ δ' i (.mp (mpI (setI ys))) := e ▸ .set h
theorem WO.set0 {ys : List Int} (h : δ.ob i = some (.mp (mpI []))) (e : [] = ys) : WO δ δ' i (.mp (mpI (setI ys))) := WO.setE (xs := []) h e
end Go.Ab
namespace Go.Ab
open Go Go.RowKit
section
variable {q : Md} {P : Program} {g : Ghost} {δ : DS} {ops : Array Oper} {rest : List Oper} {Q : Exit → DS → Prop} {dst : Option Nat} {ty : TypeId} {pos : String} {af : Array Edge}
theorem AOps.index_own_mapI {α : Type} {x y : Operand} {t e e' : TypeId} {i k : Nat} {m : Int} {f : α → List PV} {l : List α} (hx : δ.ev x = .own i e' k (l.map f)) (hy : δ.ev y = litI m)
    (ht : P.underlying t = some (.slice e)) (hk : (P.info? e).map (·.size) = some k) (ho : okT x = true) (ho' : okT y = true) (hd : okD δ.n dst = true) (h0 : 0 ≤ m) (hn : m < l.length)
    (hK : AOps q P g ops rest Q (δ.putd dst (.optr i e' k (l.map f) m.toNat))) : AOps q P g ops (⟨dst, .indexAddr t x y, ty, pos, af, none⟩ :: rest) Q δ :=
  AOps.index_own (n := m.toNat) hx (by rw [hy]; show litI m = litI _; rw [Int.toNat_of_nonneg h0]) (by simp; omega) ht hk ho ho' hd hK
theorem AOps.load_o1_mapI {α : Type} {x : Operand} {t e : TypeId} {i : Nat} {m : Nat} {f : α → PV} {l : List α} (hx : δ.ev x = .optr i e 1 (l.map fun z => [f z]) m) (ht : scalarT P t = true) (ho : okT x = true) (hd : okD δ.n dst = true) (hq : q ≠ .held) (hn : m < l.length)
    (hK : AOps q P g ops rest Q (δ.putd dst (.pv (f l[m])))) : AOps q P g ops (⟨dst, .load t x, ty, pos, af, none⟩ :: rest) Q δ :=
  AOps.load_o1_map hq hx hn ht ho hd hK
end
end Go.Ab
