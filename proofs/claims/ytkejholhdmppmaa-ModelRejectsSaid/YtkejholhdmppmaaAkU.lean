/- Chapter 07's laws: same traces are an equivalence. -/
import Derived.Test.YtkejholhdmppmaaAkS
import Derived.Test.YtkejholhdmppmaaAbL3
set_option linter.unusedSimpArgs false
set_option linter.unusedVariables false
namespace Go.Ab
open Go Go.Proofs
set_option maxRecDepth 20000
set_option maxHeartbeats 8000000
theorem SameTr.symm {a b : ModM} (h : SameTr a b) : SameTr b a := ⟨h.1.symm, fun t => (h.2 t).symm⟩
theorem SameTr.trans {a b c : ModM} (h : SameTr a b) (h' : SameTr b c) : SameTr a c := ⟨h.1.trans h'.1, fun t => (h.2 t).trans (h'.2 t)⟩
theorem Short.leLen {m : ModM} (h : Lp m) {n l : Nat} (hs : Short (stM m) n l) : n ≤ m.states.length := hs.2 _ _ (rep_self (d := ([] : List RelM)) h.lt)
theorem sh_eq {a b : ModM} (ha : Lp a) (hb : Lp b) {n l n' l' : Nat} (hsa : Short (stM a) n l) (hsb : Short (stM b) n' l') : decide (shM a n l = shM b n' l') = sameTr a b := by
  rw [Bool.eq_iff_iff, sameTr_iff, decide_eq_true_eq]
  constructor
  · intro h
    have h1 := (sameTr_sh ha hsa.1.1 (Short.leLen ha hsa)).2 hsa.1
    have h2 := (sameTr_sh hb hsb.1.1 (Short.leLen hb hsb)).2 hsb.1
    exact h1.symm.trans (h ▸ h2)
  · rintro ⟨h1, h2⟩
    have e : stM a = stM b := funext h2
    rw [← e] at hsb
    obtain ⟨rfl, rfl⟩ := hsa.uniq hsb
    unfold shM
    rw [h1]
    have h3 := tr_take (d := ([] : List RelM)) (l := a.loop.toNat) (Short.leLen ha hsa)
    have h4 := tr_take (d := ([] : List RelM)) (l := b.loop.toNat) (Short.leLen hb (e ▸ hsb))
    have e2 : trN [] a.states a.loop.toNat = trN [] b.states b.loop.toNat := e
    rw [← h3, ← h4, e2]
attribute [local irreducible] AW AOps thenD inBlockD AR iterEnds roundEndsN inlEnds noGotoD
end Go.Ab
