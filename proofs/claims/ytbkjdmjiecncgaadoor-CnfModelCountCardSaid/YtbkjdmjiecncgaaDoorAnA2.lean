/- Chapter 19: the formula of a reference, in plain terms. -/
import Derived.Test.YtbkjdmjiecncgaaDoorAnA1
set_option linter.unusedSimpArgs false
set_option linter.unusedVariables false
namespace Go.Ab
open Go Go.Proofs
set_option maxRecDepth 20000
set_option maxHeartbeats 4000000
/-- a literal holds under the values. -/
def holdsM (w : List Bool) (l : Int) : Bool := w.getD (max l (-l) - 1).toNat false == decide (0 < l)
def satM (cl : List (List Int)) (w : List Bool) : Bool := cl.all fun c => c.any (holdsM w)
/-- where a number stands. -/
def idxI (G : List Int) (x : Int) : Nat := G.findIdx (fun y => decide (y = x))
theorem idxI_lt {G : List Int} {x : Int} (h : x ∈ G) : idxI G x < G.length := by
  unfold idxI
  rw [List.findIdx_lt_length]
  exact ⟨x, h, by simp⟩
theorem idxI_get {G : List Int} {x : Int} (h : x ∈ G) : G[idxI G x]'(idxI_lt h) = x := by
  have := List.findIdx_getElem (xs := G) (p := fun y => decide (y = x)) (w := idxI_lt h)
  exact of_decide_eq_true this
theorem idxI_at {G : List Int} (hG : Inc G) {i : Nat} (hi : i < G.length) : idxI G G[i] = i := by
  have h1 := idxI_lt (List.getElem_mem hi)
  have h2 := idxI_get (List.getElem_mem hi)
  rw [Inc, List.pairwise_iff_getElem] at hG
  rcases Nat.lt_trichotomy (idxI G G[i]) i with h | h | h
  · have := hG _ _ h1 hi h; omega
  · exact h
  · have := hG _ _ hi h1 h; omega
/-- the variable of a gate; a reference's literal. -/
def varG (gs : List GateM) (n : Int) (G : List Int) (x : Int) : Int := if x ∈ G then n + 1 + (idxI G x : Nat) else (gAt gs x.toNat).a
def litG (gs : List GateM) (n : Int) (G : List Int) (r : Int) : Int := if r % 2 = 1 then -(varG gs n G (r / 2)) else varG gs n G (r / 2)
def threeG (gs : List GateM) (n : Int) (G : List Int) (x : Int) : List (List Int) :=
  [[-(litG gs n G (2 * x)), litG gs n G (gAt gs x.toNat).a], [-(litG gs n G (2 * x)), litG gs n G (gAt gs x.toNat).b], [litG gs n G (2 * x), -(litG gs n G (gAt gs x.toNat).a), -(litG gs n G (gAt gs x.toNat).b)]]
def tseG (gs : List GateM) (r n : Int) (G : List Int) : List (List Int) := G.flatMap (threeG gs n G) ++ [[litG gs n G r]]
noncomputable def tseM (gs : List GateM) (r n : Int) : Int × List (List Int) := if r = 0 then (n, []) else if r = 1 then (n, [[]]) else (n + ((needM gs r).length : Nat), tseG gs r n (needM gs r))
/-- as many values as there are inputs. -/
def padB (n : Nat) (values : List Bool) : List Bool := (List.range n).map fun i => values.getD i false
theorem padB_len (n : Nat) (v : List Bool) : (padB n v).length = n := by simp [padB]
def extG (gs : List GateM) (G : List Int) (given : List Bool) : List Bool := given ++ G.map fun x => evalG gs given (2 * x)
noncomputable def extM (gs : List GateM) (r : Int) (n : Nat) (values : List Bool) : List Bool := if r < 2 then padB n values else extG gs (needM gs r) (padB n values)
theorem extG_len (gs : List GateM) (G : List Int) (v : List Bool) : (extG gs G v).length = v.length + G.length := by simp [extG]
/-- a reference that the formula speaks of. -/
structure Said (gs : List GateM) (G : List Int) (x : Int) : Prop where
  lo : 2 ≤ x
  hi : x < 2 * (gs.length : Int)
  and : (gAt gs (x / 2).toNat).k = 2 → x / 2 ∈ G
theorem varG_and {gs : List GateM} {n : Int} {G : List Int} {x : Int} (h : x ∈ G) : varG gs n G x = n + 1 + (idxI G x : Nat) := if_pos h
theorem NeedOk.said {gs : List GateM} (hc : CirOk gs) {r : Int} (hr : RefOk gs r) (h2 : 2 ≤ r) {G : List Int} (h : NeedOk gs r G) : Said gs G r := ⟨h2, hr.2, h.self⟩
theorem NeedOk.kidA {gs : List GateM} (hc : CirOk gs) {r : Int} {G : List Int} (h : NeedOk gs r G) {x : Int} (hx : x ∈ G) : Said gs G (gAt gs x.toNat).a := by
  obtain ⟨h0, _, hk⟩ := h.and x hx
  obtain ⟨h1, h2, h3, h4⟩ := hc.and hk
  have := gAt_lt hk
  exact ⟨h1, by omega, (h.kids x hx).1⟩
theorem NeedOk.kidB {gs : List GateM} (hc : CirOk gs) {r : Int} {G : List Int} (h : NeedOk gs r G) {x : Int} (hx : x ∈ G) : Said gs G (gAt gs x.toNat).b := by
  obtain ⟨h0, _, hk⟩ := h.and x hx
  obtain ⟨h1, h2, h3, h4⟩ := hc.and hk
  have := gAt_lt hk
  exact ⟨by omega, by omega, (h.kids x hx).2⟩
theorem NeedOk.own {gs : List GateM} {r : Int} {G : List Int} (h : NeedOk gs r G) {x : Int} (hx : x ∈ G) (hc : CirOk gs) : Said gs G (2 * x) := by
  obtain ⟨h0, _, hk⟩ := h.and x hx
  obtain ⟨h1, h2, h3, h4⟩ := hc.and hk
  have := gAt_lt hk
  exact ⟨by omega, by omega, fun _ => by rwa [show 2 * x / 2 = x by omega]⟩
/-- a gate's variable lies between 1 and all. -/
theorem Said.var {gs : List GateM} (hc : CirOk gs) {G : List Int} {x : Int} (h : Said gs G x) {n : Int} (hn : 8 ≤ n) : 1 ≤ varG gs n G (x / 2) ∧ varG gs n G (x / 2) ≤ n + (G.length : Nat) := by
  unfold varG
  by_cases hx : x / 2 ∈ G
  · rw [if_pos hx]
    have := idxI_lt hx
    omega
  · rw [if_neg hx]
    have h1 := h.lo
    have h2 := h.hi
    rcases hc.kind (i := (x / 2).toNat) (by omega) (by omega) with h3 | h3
    · omega
    · exact absurd (h.and h3) hx
theorem Said.lit {gs : List GateM} (hc : CirOk gs) {G : List Int} {x : Int} (h : Said gs G x) {n : Int} (hn : 8 ≤ n) : litG gs n G x ≠ 0 ∧ litG gs n G x ≤ n + (G.length : Nat) ∧ -(n + (G.length : Nat) : Int) ≤ litG gs n G x := by
  have := h.var hc hn
  unfold litG
  split <;> omega
theorem holds_neg {w : List Bool} {l : Int} (h : l ≠ 0) : holdsM w (-l) = !(holdsM w l) := by
  unfold holdsM
  rw [show max (-l) (- -l) = max l (-l) by omega]
  by_cases h0 : 0 < l
  · rw [decide_eq_true h0, decide_eq_false (show ¬ 0 < -l by omega)]
    cases w.getD (max l (-l) - 1).toNat false <;> rfl
  · rw [decide_eq_false h0, decide_eq_true (show 0 < -l by omega)]
    cases w.getD (max l (-l) - 1).toNat false <;> rfl
theorem holds_pos {w : List Bool} {l : Int} (h : 1 ≤ l) : holdsM w l = w.getD (l - 1).toNat false := by
  unfold holdsM
  rw [show max l (-l) = l by omega, decide_eq_true (show 0 < l by omega)]
  cases w.getD (l - 1).toNat false <;> rfl
/-- the values of the gates' variables are those of the gates. -/
def Right (gs : List GateM) (n : Nat) (G : List Int) (w : List Bool) : Prop := ∀ x ∈ G, w.getD (n + idxI G x) false = valG gs (w.take n) x.toNat
theorem Right.lit {gs : List GateM} (hc : CirOk gs) {n : Nat} {G : List Int} {w : List Bool} (hw : n ≤ w.length) (hn : 8 ≤ n) {x : Int} (h : Said gs G x) (hr : x / 2 ∈ G → w.getD (n + idxI G (x / 2)) false = valG gs (w.take n) (x / 2).toNat) : holdsM w (litG gs n G x) = evalG gs (w.take n) x := by
  have hv := h.var hc (n := n) (by omega)
  have key : holdsM w (varG gs n G (x / 2)) = valG gs (w.take n) (x / 2).toNat := by
    rw [holds_pos hv.1]
    by_cases hx : x / 2 ∈ G
    · rw [varG_and hx, ← hr hx]
      congr 1
      omega
    · have h1 := h.lo
      have h2 := h.hi
      rcases hc.kind (i := (x / 2).toNat) (by omega) (by omega) with h3 | h3
      · rw [valG_in _ (show (x / 2).toNat < gs.length by omega) (by rw [← gAt_eq (by omega)]; exact h3.1), inV, varG, if_neg hx, gAt_eq (by omega)]
        rw [gAt_eq (by omega)] at h3
        rw [List.getD_eq_getElem?_getD, List.getD_eq_getElem?_getD, List.getElem?_take, if_pos (by omega)]
      · exact absurd (h.and h3) hx
  unfold litG evalG
  by_cases h2 : x % 2 = 1
  · rw [if_pos h2, holds_neg (by omega), key, decide_eq_false (show ¬ x % 2 = 0 by omega)]
    cases valG gs (w.take n) (x / 2).toNat <;> rfl
  · rw [if_neg h2, key, decide_eq_true (show x % 2 = 0 by omega)]
    cases valG gs (w.take n) (x / 2).toNat <;> rfl
theorem three_sat {w : List Bool} {g a b : Int} (hg : g ≠ 0) (ha : a ≠ 0) (hb : b ≠ 0) : satM [[-g, a], [-g, b], [g, -a, -b]] w = (holdsM w g == (holdsM w a && holdsM w b)) := by
  unfold satM
  simp only [List.all_cons, List.all_nil, List.any_cons, List.any_nil, holds_neg hg, holds_neg ha, holds_neg hb]
  cases holdsM w g <;> cases holdsM w a <;> cases holdsM w b <;> rfl
theorem sat_app (a b : List (List Int)) (w : List Bool) : satM (a ++ b) w = (satM a w && satM b w) := by unfold satM; rw [List.all_append]
theorem sat_flat {G : List Int} {f : Int → List (List Int)} {w : List Bool} : satM (G.flatMap f) w = G.all fun x => satM (f x) w := by
  unfold satM
  rw [List.all_flatMap]
theorem sat_one (l : Int) (w : List Bool) : satM [[l]] w = holdsM w l := by unfold satM; simp
theorem own_val {gs : List GateM} {v : List Bool} {x : Int} : evalG gs v (2 * x) = valG gs v x.toNat := by
  unfold evalG
  rw [show 2 * x / 2 = x by omega, decide_eq_true (show 2 * x % 2 = 0 by omega)]
  cases valG gs v x.toNat <;> rfl
theorem val_need {gs : List GateM} (hc : CirOk gs) {x : Int} (hk : (gAt gs x.toNat).k = 2) (v : List Bool) : valG gs v x.toNat = (evalG gs v (gAt gs x.toNat).a && evalG gs v (gAt gs x.toNat).b) := by
  have hi := gAt_lt hk
  have e := gAt_eq hi
  rw [e] at hk ⊢
  exact valG_and hc v hi hk
/-- **The formula says that the gates' values are right and the reference is true.** -/
theorem sat_of_right {gs : List GateM} (hc : CirOk gs) {r : Int} (hr : RefOk gs r) (h2 : 2 ≤ r) {G : List Int} (h : NeedOk gs r G) {n : Nat} (hn : 8 ≤ n) {w : List Bool} (hw : n ≤ w.length) (hR : Right gs n G w) : satM (tseG gs r n G) w = evalG gs (w.take n) r := by
  have L : ∀ {x : Int}, Said gs G x → holdsM w (litG gs n G x) = evalG gs (w.take n) x := fun hs => Right.lit hc hw hn hs fun hx => hR _ hx
  unfold tseG
  rw [sat_app, sat_flat, sat_one, L (h.said hc hr h2)]
  have : (G.all fun x => satM (threeG gs n G x) w) = true := by
    rw [List.all_eq_true]
    intro x hx
    have s1 := h.own hx hc
    have s2 := h.kidA hc hx
    have s3 := h.kidB hc hx
    unfold threeG
    rw [three_sat (s1.lit hc (n := n) (by omega)).1 (s2.lit hc (n := n) (by omega)).1 (s3.lit hc (n := n) (by omega)).1, L s1, L s2, L s3, own_val, val_need hc (h.and x hx).2.2]
    simp
  rw [this, Bool.true_and]
theorem right_of_sat {gs : List GateM} (hc : CirOk gs) {r : Int} (hr : RefOk gs r) (h2 : 2 ≤ r) {G : List Int} (h : NeedOk gs r G) {n : Nat} (hn : 8 ≤ n) {w : List Bool} (hw : n ≤ w.length) (hs : satM (tseG gs r n G) w = true) : Right gs n G w := by
  unfold tseG at hs
  rw [sat_app, sat_flat, Bool.and_eq_true, List.all_eq_true] at hs
  have key : ∀ m : Nat, ∀ x ∈ G, x.toNat = m → w.getD (n + idxI G x) false = valG gs (w.take n) x.toNat := by
    intro m
    induction m using Nat.strongRecOn with
    | _ m ih =>
      intro x hx hm
      obtain ⟨h0, _, hk⟩ := h.and x hx
      obtain ⟨k1, k2, k3, k4⟩ := hc.and hk
      have s1 := h.own hx hc
      have s2 := h.kidA hc hx
      have s3 := h.kidB hc hx
      have h3 := hs.1 x hx
      unfold threeG at h3
      rw [three_sat (s1.lit hc (n := n) (by omega)).1 (s2.lit hc (n := n) (by omega)).1 (s3.lit hc (n := n) (by omega)).1] at h3
      have La := Right.lit hc hw hn s2 fun hx' => ih _ (by omega) _ hx' rfl
      have Lb := Right.lit hc hw hn s3 fun hx' => ih _ (by omega) _ hx' rfl
      rw [La, Lb, ← val_need hc hk] at h3
      have e1 : litG gs n G (2 * x) = n + 1 + (idxI G x : Nat) := by
        unfold litG
        rw [if_neg (by omega), show 2 * x / 2 = x by omega, varG_and hx]
      rw [e1, holds_pos (by omega), show ((n : Int) + 1 + (idxI G x : Nat) - 1).toNat = n + idxI G x by omega] at h3
      simpa using h3
  exact fun x hx => key _ x hx rfl
theorem ext_right {gs : List GateM} {G : List Int} (hG : Inc G) (v : List Bool) : Right gs v.length G (extG gs G v) := by
  intro x hx
  have h1 := idxI_lt hx
  unfold extG
  rw [List.getD_eq_getElem?_getD, List.getElem?_append_right (by omega), List.take_left, Nat.add_sub_cancel_left, List.getElem?_map, List.getElem?_eq_getElem h1, idxI_get hx]
  exact own_val
/-- right values are the extension of the inputs. -/
theorem right_ext {gs : List GateM} {G : List Int} (hG : Inc G) {n : Nat} {w : List Bool} (hw : w.length = n + G.length) (hR : Right gs n G w) : w = extG gs G (w.take n) := by
  have ht : (w.take n).length = n := by rw [List.length_take]; omega
  unfold extG
  apply List.ext_getElem
  · rw [List.length_append, List.length_map, ht, hw]
  · intro i h1 h2
    by_cases hi : i < n
    · rw [List.getElem_append_left (by omega)]; simp
    · rw [List.getElem_append_right (by omega)]
      have hj : i - n < G.length := by omega
      have := hR _ (List.getElem_mem hj)
      rw [idxI_at hG hj] at this
      simp only [ht, List.getElem_map]
      rw [own_val, ← this, show n + (i - n) = i by omega, List.getD_eq_getElem?_getD, List.getElem?_eq_getElem h1]; rfl
theorem sat_iff {gs : List GateM} (hc : CirOk gs) {r : Int} (hr : RefOk gs r) (h2 : 2 ≤ r) {G : List Int} (h : NeedOk gs r G) {n : Nat} (hn : 8 ≤ n) {w : List Bool} (hw : w.length = n + G.length) : satM (tseG gs r n G) w = true ↔ w = extG gs G (w.take n) ∧ evalG gs (w.take n) r = true := by
  constructor
  · intro hs
    have hR := right_of_sat hc hr h2 h hn (by omega) hs
    exact ⟨right_ext h.inc hw hR, by rw [← sat_of_right hc hr h2 h hn (by omega) hR]; exact hs⟩
  · rintro ⟨h1, h3⟩
    have ht : (w.take n).length = n := by rw [List.length_take]; omega
    have hR : Right gs n G w := by
      have := ext_right (gs := gs) h.inc (w.take n)
      rw [← h1, ht] at this
      exact this
    rw [sat_of_right hc hr h2 h hn (by omega) hR]; exact h3
end Go.Ab
