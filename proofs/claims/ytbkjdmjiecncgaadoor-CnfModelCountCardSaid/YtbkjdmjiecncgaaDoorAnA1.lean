/- Chapter 19: the gates that a reference needs, in plain terms. -/
import Derived.Test.YtbkjdmjiecncgaaDoorAnA0
import Derived.Test.YtbkjdmjiecncgaaDoorAnSP
set_option linter.unusedSimpArgs false
set_option linter.unusedVariables false
namespace Go.Ab
open Go Go.Proofs
set_option maxRecDepth 20000
set_option maxHeartbeats 4000000
def gAt (gs : List GateM) (i : Nat) : GateM := gs.getD i ⟨0, 0, 0⟩
/-- the walk over the gates: which are met. -/
def visitM (gs : List GateM) : Nat → List Int → Nat → List Int
  | 0, met, _ => met
  | n + 1, met, i => if (gAt gs i).k = 2 ∧ ¬ (i : Int) ∈ met then visitM gs n (visitM gs n (met ++ [(i : Int)]) ((gAt gs i).a / 2).toNat) ((gAt gs i).b / 2).toNat else met
theorem gAt_eq {gs : List GateM} {i : Nat} (h : i < gs.length) : gAt gs i = gs[i] := by unfold gAt; rw [List.getD_eq_getElem?_getD, List.getElem?_eq_getElem h]; rfl
theorem gAt_lt {gs : List GateM} {i : Nat} (h : (gAt gs i).k = 2) : i < gs.length := by
  by_cases hi : i < gs.length
  · exact hi
  · unfold gAt at h
    rw [List.getD_eq_getElem?_getD, List.getElem?_eq_none (by omega)] at h
    simp at h
theorem CirOk.and {gs : List GateM} (hc : CirOk gs) {i : Nat} (hk : (gAt gs i).k = 2) : 2 ≤ (gAt gs i).a ∧ (gAt gs i).a < (gAt gs i).b ∧ (gAt gs i).b < 2 * (i : Int) ∧ (gAt gs i).a / 2 ≠ (gAt gs i).b / 2 := by
  have hi := gAt_lt hk
  rw [gAt_eq hi] at hk ⊢
  have h0 : i ≠ 0 := fun e => by
    subst e
    have := hc.zero
    rw [List.getElem?_eq_getElem hi] at this
    rw [Option.some.inj this] at hk
    simp at hk
  rcases hc.ok i hi h0 with h | h
  · omega
  · exact ⟨h.2.1, h.2.2.1, h.2.2.2.1, h.2.2.2.2⟩
/-- the gates' kinds and what an input's gate holds. -/
theorem CirOk.kind {gs : List GateM} (hc : CirOk gs) {i : Nat} (hi : i < gs.length) (h0 : i ≠ 0) : ((gAt gs i).k = 1 ∧ 1 ≤ (gAt gs i).a ∧ (gAt gs i).a ≤ 8) ∨ (gAt gs i).k = 2 := by
  rw [gAt_eq hi]
  rcases hc.ok i hi h0 with h | h
  · exact .inl ⟨h.1, h.2.1, h.2.2.1⟩
  · exact .inr h.1
/-- what the walk from a gate brings. -/
structure Visit (gs : List GateM) (met out : List Int) (i : Nat) : Prop where
  sub : ∀ x ∈ met, x ∈ out
  self : (gAt gs i).k = 2 → (i : Int) ∈ out
  and : ∀ x ∈ out, x ∈ met ∨ (0 ≤ x ∧ x ≤ i ∧ (gAt gs x.toNat).k = 2)
  kids : ∀ x ∈ out, x ∈ met ∨ ((gAt gs ((gAt gs x.toNat).a / 2).toNat).k = 2 → (gAt gs x.toNat).a / 2 ∈ out) ∧ ((gAt gs ((gAt gs x.toNat).b / 2).toNat).k = 2 → (gAt gs x.toNat).b / 2 ∈ out)
  nodup : met.Nodup → out.Nodup
theorem visit_ok {gs : List GateM} (hc : CirOk gs) : ∀ (n : Nat) (met : List Int) (i : Nat), i < n → Visit gs met (visitM gs n met i) i
  | 0, met, i, h => by omega
  | n + 1, met, i, h => by
    unfold visitM
    split
    · rename_i hk
      obtain ⟨hk, hm⟩ := hk
      obtain ⟨h1, h2, h3, h4⟩ := hc.and hk
      have ea : (((gAt gs i).a / 2).toNat : Int) = (gAt gs i).a / 2 := by omega
      have eb : (((gAt gs i).b / 2).toNat : Int) = (gAt gs i).b / 2 := by omega
      have v1 := visit_ok hc n (met ++ [(i : Int)]) ((gAt gs i).a / 2).toNat (by omega)
      generalize visitM gs n (met ++ [(i : Int)]) ((gAt gs i).a / 2).toNat = m1 at v1 ⊢
      have v2 := visit_ok hc n m1 ((gAt gs i).b / 2).toNat (by omega)
      generalize visitM gs n m1 ((gAt gs i).b / 2).toNat = m2 at v2 ⊢
      have hi1 : (i : Int) ∈ m1 := v1.sub _ (by simp)
      refine ⟨fun x hx => v2.sub _ (v1.sub _ (by simp [hx])), fun _ => v2.sub _ hi1, fun x hx => ?_, fun x hx => ?_, fun hn => v2.nodup (v1.nodup ?_)⟩
      · rcases v2.and x hx with h | h
        · rcases v1.and x h with h | h
          · rcases List.mem_append.1 h with h | h
            · exact .inl h
            · simp at h; subst h
              exact .inr ⟨by omega, Int.le_refl _, by simpa using hk⟩
          · exact .inr ⟨h.1, by omega, h.2.2⟩
        · exact .inr ⟨h.1, by omega, h.2.2⟩
      · rcases v2.kids x hx with h | h
        · rcases v1.kids x h with h | h
          · rcases List.mem_append.1 h with h | h
            · exact .inl h
            · simp at h; subst h
              right
              simp only [Int.toNat_natCast]
              exact ⟨fun hk2 => ea ▸ v2.sub _ (v1.self hk2), fun hk2 => eb ▸ v2.self hk2⟩
          · exact .inr ⟨fun hk2 => v2.sub _ (h.1 hk2), fun hk2 => v2.sub _ (h.2 hk2)⟩
        · exact .inr h
      · rw [List.nodup_append]
        refine ⟨hn, by simp, fun x hx y hy e => ?_⟩
        simp at hy; subst hy; subst e
        exact hm hx
    · rename_i hk
      refine ⟨fun x hx => hx, fun h => ?_, fun x hx => .inl hx, fun x hx => .inl hx, fun h => h⟩
      by_cases hm : (i : Int) ∈ met
      · exact hm
      · exact absurd ⟨h, hm⟩ hk
/-- the needed gates, in rising order. -/
noncomputable def needM (gs : List GateM) (r : Int) : List Int := canon (visitM gs gs.length [] (r / 2).toNat)
structure NeedOk (gs : List GateM) (r : Int) (G : List Int) : Prop where
  inc : Inc G
  and : ∀ x ∈ G, 0 ≤ x ∧ x ≤ r / 2 ∧ (gAt gs x.toNat).k = 2
  self : (gAt gs (r / 2).toNat).k = 2 → r / 2 ∈ G
  kids : ∀ x ∈ G, ((gAt gs ((gAt gs x.toNat).a / 2).toNat).k = 2 → (gAt gs x.toNat).a / 2 ∈ G) ∧ ((gAt gs ((gAt gs x.toNat).b / 2).toNat).k = 2 → (gAt gs x.toNat).b / 2 ∈ G)
theorem need_ok {gs : List GateM} (hc : CirOk gs) {r : Int} (hr : RefOk gs r) : NeedOk gs r (needM gs r) := by
  unfold RefOk at hr
  have v := visit_ok hc gs.length [] (r / 2).toNat (by omega)
  unfold needM
  generalize visitM gs gs.length [] (r / 2).toNat = m at v
  have er : ((r / 2).toNat : Int) = r / 2 := by omega
  refine ⟨canon_inc _, fun x hx => ?_, fun hk => canon_mem.2 (er ▸ v.self hk), fun x hx => ?_⟩
  · rcases v.and x (canon_mem.1 hx) with h | h
    · cases h
    · exact ⟨h.1, by omega, h.2.2⟩
  · rcases v.kids x (canon_mem.1 hx) with h | h
    · cases h
    · exact ⟨fun hk => canon_mem.2 (h.1 hk), fun hk => canon_mem.2 (h.2 hk)⟩
end Go.Ab
