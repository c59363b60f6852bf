/- Chapter 19: the formula of a reference, in plain terms. -/
import Derived.Test.YtbkjdmjiecncgaaDoorAnA1
set_option linter.unusedSimpArgs false
set_option linter.unusedVariables false
namespace Go.Ab
open Go Go.Proofs
set_option maxRecDepth 20000
set_option maxHeartbeats 4000000
/-- a literal holds under the values. -/
def holdsM (w : List Bool) (l : Int) : Bool := w.getD (max l (-l) - 1).toNat false == decide (0 < l)
def satM (cl : List (List Int)) (w : List Bool) : Bool := cl.all fun c => c.any (holdsM w)
/-- where a number stands. -/
def idxI (G : List Int) (x : Int) : Nat := G.findIdx (fun y => decide (y = x))
theorem idxI_lt {G : List Int} {x : Int} (h : x ∈ G) : idxI G x < G.length := by
  unfold idxI
  rw [List.findIdx_lt_length]
  exact ⟨x, h, by simp⟩
/-- the variable of a gate; a reference's literal. -/
def varG (gs : List GateM) (n : Int) (G : List Int) (x : Int) : Int := if x ∈ G then n + 1 + (idxI G x : Nat) else (gAt gs x.toNat).a
def litG (gs : List GateM) (n : Int) (G : List Int) (r : Int) : Int := if r % 2 = 1 then -(varG gs n G (r / 2)) else varG gs n G (r / 2)
def threeG (gs : List GateM) (n : Int) (G : List Int) (x : Int) : List (List Int) :=
  [[-(litG gs n G (2 * x)), litG gs n G (gAt gs x.toNat).a], [-(litG gs n G (2 * x)), litG gs n G (gAt gs x.toNat).b], [litG gs n G (2 * x), -(litG gs n G (gAt gs x.toNat).a), -(litG gs n G (gAt gs x.toNat).b)]]
def tseG (gs : List GateM) (r n : Int) (G : List Int) : List (List Int) := G.flatMap (threeG gs n G) ++ [[litG gs n G r]]
noncomputable def tseM (gs : List GateM) (r n : Int) : Int × List (List Int) := if r = 0 then (n, []) else if r = 1 then (n, [[]]) else (n + ((needM gs r).length : Nat), tseG gs r n (needM gs r))
/-- as many values as there are inputs. -/
def padB (n : Nat) (values : List Bool) : List Bool := (List.range n).map fun i => values.getD i false
theorem padB_len (n : Nat) (v : List Bool) : (padB n v).length = n := by simp [padB]
def extG (gs : List GateM) (G : List Int) (given : List Bool) : List Bool := given ++ G.map fun x => evalG gs given (2 * x)
noncomputable def extM (gs : List GateM) (r : Int) (n : Nat) (values : List Bool) : List Bool := if r < 2 then padB n values else extG gs (needM gs r) (padB n values)
theorem extG_len (gs : List GateM) (G : List Int) (v : List Bool) : (extG gs G v).length = v.length + G.length := by simp [extG]
/-- a reference that the formula speaks of. -/
structure Said (gs : List GateM) (G : List Int) (x : Int) : Prop where
  lo : 2 ≤ x
  hi : x < 2 * (gs.length : Int)
  and : (gAt gs (x / 2).toNat).k = 2 → x / 2 ∈ G
theorem varG_and {gs : List GateM} {n : Int} {G : List Int} {x : Int} (h : x ∈ G) : varG gs n G x = n + 1 + (idxI G x : Nat) := if_pos h
theorem NeedOk.said {gs : List GateM} (hc : CirOk gs) {r : Int} (hr : RefOk gs r) (h2 : 2 ≤ r) {G : List Int} (h : NeedOk gs r G) : Said gs G r := ⟨h2, hr.2, h.self⟩
theorem NeedOk.kidA {gs : List GateM} (hc : CirOk gs) {r : Int} {G : List Int} (h : NeedOk gs r G) {x : Int} (hx : x ∈ G) : Said gs G (gAt gs x.toNat).a := by
  obtain ⟨h0, _, hk⟩ := h.and x hx
  obtain ⟨h1, h2, h3, h4⟩ := hc.and hk
  have := gAt_lt hk
  exact ⟨h1, by omega, (h.kids x hx).1⟩
theorem NeedOk.kidB {gs : List GateM} (hc : CirOk gs) {r : Int} {G : List Int} (h : NeedOk gs r G) {x : Int} (hx : x ∈ G) : Said gs G (gAt gs x.toNat).b := by
  obtain ⟨h0, _, hk⟩ := h.and x hx
  obtain ⟨h1, h2, h3, h4⟩ := hc.and hk
  have := gAt_lt hk
  exact ⟨by omega, by omega, (h.kids x hx).2⟩
theorem NeedOk.own {gs : List GateM} {r : Int} {G : List Int} (h : NeedOk gs r G) {x : Int} (hx : x ∈ G) (hc : CirOk gs) : Said gs G (2 * x) := by
  obtain ⟨h0, _, hk⟩ := h.and x hx
  obtain ⟨h1, h2, h3, h4⟩ := hc.and hk
  have := gAt_lt hk
  exact ⟨by omega, by omega, fun _ => by rwa [show 2 * x / 2 = x by omega]⟩
/-- a gate's variable lies between 1 and all. -/
theorem Said.var {gs : List GateM} (hc : CirOk gs) {G : List Int} {x : Int} (h : Said gs G x) {n : Int} (hn : 8 ≤ n) : 1 ≤ varG gs n G (x / 2) ∧ varG gs n G (x / 2) ≤ n + (G.length : Nat) := by
  unfold varG
  by_cases hx : x / 2 ∈ G
  · rw [if_pos hx]
    have := idxI_lt hx
    omega
  · rw [if_neg hx]
    have h1 := h.lo
    have h2 := h.hi
    rcases hc.kind (i := (x / 2).toNat) (by omega) (by omega) with h3 | h3
    · omega
    · exact absurd (h.and h3) hx
theorem Said.lit {gs : List GateM} (hc : CirOk gs) {G : List Int} {x : Int} (h : Said gs G x) {n : Int} (hn : 8 ≤ n) : litG gs n G x ≠ 0 ∧ litG gs n G x ≤ n + (G.length : Nat) ∧ -(n + (G.length : Nat) : Int) ≤ litG gs n G x := by
  have := h.var hc hn
  unfold litG
  split <;> omega
theorem holds_neg {w : List Bool} {l : Int} (h : l ≠ 0) : holdsM w (-l) = !(holdsM w l) := by
  unfold holdsM
  rw [show max (-l) (- -l) = max l (-l) by omega]
  by_cases h0 : 0 < l
  · rw [decide_eq_true h0, decide_eq_false (show ¬ 0 < -l by omega)]
    cases w.getD (max l (-l) - 1).toNat false <;> rfl
  · rw [decide_eq_false h0, decide_eq_true (show 0 < -l by omega)]
    cases w.getD (max l (-l) - 1).toNat false <;> rfl
theorem holds_pos {w : List Bool} {l : Int} (h : 1 ≤ l) : holdsM w l = w.getD (l - 1).toNat false := by
  unfold holdsM
  rw [show max l (-l) = l by omega, decide_eq_true (show 0 < l by omega)]
  cases w.getD (l - 1).toNat false <;> rfl
/-- the values of the gates' variables are those of the gates. -/
def Right (gs : List GateM) (n : Nat) (G : List Int) (w : List Bool) : Prop := ∀ x ∈ G, w.getD (n + idxI G x) false = valG gs (w.take n) x.toNat
theorem Right.lit {gs : List GateM} (hc : CirOk gs) {n : Nat} {G : List Int} {w : List Bool} (hw : n ≤ w.length) (hn : 8 ≤ n) {x : Int} (h : Said gs G x) (hr : x / 2 ∈ G → w.getD (n + idxI G (x / 2)) false = valG gs (w.take n) (x / 2).toNat) : holdsM w (litG gs n G x) = evalG gs (w.take n) x := by
  have hv := h.var hc (n := n) (by omega)
  have key : holdsM w (varG gs n G (x / 2)) = valG gs (w.take n) (x / 2).toNat := by
    rw [holds_pos hv.1]
    by_cases hx : x / 2 ∈ G
    · rw [varG_and hx, ← hr hx]
      congr 1
      omega
    · have h1 := h.lo
      have h2 := h.hi
      rcases hc.kind (i := (x / 2).toNat) (by omega) (by omega) with h3 | h3
      · rw [valG_in _ (show (x / 2).toNat < gs.length by omega) (by rw [← gAt_eq (by omega)]; exact h3.1), inV, varG, if_neg hx, gAt_eq (by omega)]
        rw [gAt_eq (by omega)] at h3
        rw [List.getD_eq_getElem?_getD, List.getD_eq_getElem?_getD, List.getElem?_take, if_pos (by omega)]
      · exact absurd (h.and h3) hx
  unfold litG evalG
  by_cases h2 : x % 2 = 1
  · rw [if_pos h2, holds_neg (by omega), key, decide_eq_false (show ¬ x % 2 = 0 by omega)]
    cases valG gs (w.take n) (x / 2).toNat <;> rfl
  · rw [if_neg h2, key, decide_eq_true (show x % 2 = 0 by omega)]
    cases valG gs (w.take n) (x / 2).toNat <;> rfl
end Go.Ab
