/- Chapter 09: bounds as data; the plain laws of meets, free tuples and contained models. -/
import Derived.Test.YtjknobmbibighaaGreatAiK6
set_option linter.unusedSimpArgs false
set_option linter.unusedVariables false
namespace Go.Ab
open Go Go.Proofs
set_option maxRecDepth 20000
set_option maxHeartbeats 4000000
abbrev BndM := RelM × RelM
abbrev encBn (b : BndM) : List PV := [.lit (.int .i64 b.1.1), ints b.1.2, .lit (.int .i64 b.2.1), ints b.2.2]
abbrev bnds (l : List BndM) : PV := .slice 4 (l.map encBn)
abbrev bndA (b : BndM) : AV := .agg [litI b.1.1, .pv (ints b.1.2), litI b.2.1, .pv (ints b.2.2)]
def pairsB {α β : Type} (p : α → β → Bool) : List α → List β → Bool
  | x :: xs, y :: ys => p x y && pairsB p xs ys
  | [], [] => true
  | [], _ :: _ => false
  | _ :: _, [] => false
theorem pairsB_drop {α β : Type} {p : α → β → Bool} {a : List α} {b : List β} {k : Nat} (h1 : k < a.length) (h2 : k < b.length) : pairsB p (a.drop k) (b.drop k) = (p a[k] b[k] && pairsB p (a.drop (k + 1)) (b.drop (k + 1))) := by
  rw [List.drop_eq_getElem_cons h1, List.drop_eq_getElem_cons h2]; rfl
theorem pairsB_len {α β : Type} {p : α → β → Bool} : ∀ {a : List α} {b : List β}, a.length ≠ b.length → pairsB p a b = false
  | [], [], h => absurd rfl h
  | [], _ :: _, _ => rfl
  | _ :: _, [], _ => rfl
  | x :: xs, y :: ys, h => by
    show (p x y && pairsB p xs ys) = false
    rw [pairsB_len (by simpa using h), Bool.and_false]
theorem pairsB_nil {α β : Type} {p : α → β → Bool} {a : List α} {b : List β} {k : Nat} (h : a.length = b.length) (hk : a.length ≤ k) : pairsB p (a.drop k) (b.drop k) = true := by
  rw [List.drop_eq_nil_of_le hk, List.drop_eq_nil_of_le (by omega)]; rfl
def wB (x : BndM) (r : RelM) : Bool := decide (x.1.1 = r.1 ∧ x.2.1 = r.1) && (subL x.1.2 r.2 && subL r.2 x.2.2)
def contB (bs : List BndM) (ss : List (List RelM)) : Bool := ss.all fun s => pairsB wB bs s
theorem contB_drop {bs : List BndM} {ss : List (List RelM)} {k : Nat} (hk : k < ss.length) : contB bs (ss.drop k) = (pairsB wB bs ss[k] && contB bs (ss.drop (k + 1))) := by
  rw [List.drop_eq_getElem_cons hk]; rfl
def vB (at' : List Int) (f : FieldM) (x : BndM) : Bool := decide (x.1.1 = f.sorts.length ∧ x.2.1 = f.sorts.length) && (relOk at'.sum x.1 && (relOk at'.sum x.2 && (subL x.1.2 x.2.2 && subL x.2.2 (fullR at' f.sorts).2)))
def bvB (at' : List Int) (fs : List FieldM) (bs : List BndM) : Bool := pairsB (vB at') fs bs
def undL (x : BndM) : List Int := diffL x.2.2 x.1.2
def freeL : Nat → List BndM → List (Int × Int)
  | _, [] => []
  | i, x :: bs => (undL x).map (fun t => ((i : Int), t)) ++ freeL (i + 1) bs
def alikeB (x y : BndM) : Bool := decide (x.2.1 = x.1.1 ∧ y.1.1 = x.1.1 ∧ y.2.1 = x.1.1)
def meet1 (x y : BndM) : BndM := ((x.1.1, canon (x.1.2 ++ y.1.2)), (x.2.1, interL x.2.2 y.2.2))
def okB (z : BndM) : Bool := subL z.1.2 z.2.2
def meetL (a b : List BndM) : List BndM := List.zipWith meet1 a b
def meetM (a b : List BndM) : List BndM × Int := if pairsB alikeB a b = true then (if (meetL a b).all okB = true then (meetL a b, 0) else ([], 100)) else ([], 1)
theorem inter_inc {a b : List Int} (h : Inc a) : Inc (interL a b) := h.sublist (List.filter_sublist)
theorem relOk_iff {n : Int} {r : RelM} : relOk n r = true ↔ (0 ≤ n ∧ n ≤ 12 ∧ 1 ≤ r.1 ∧ r.1 ≤ 3) ∧ Inc r.2 ∧ ∀ t ∈ r.2, 0 ≤ t ∧ t < n ^ r.1.toNat := by
  unfold relOk
  rw [Bool.and_eq_true, decide_eq_true_eq, incrB_at (by omega)]
  refine and_congr_right fun _ => ?_
  constructor
  · intro h
    constructor
    · show List.Pairwise _ _
      rw [List.pairwise_iff_getElem]
      have key : ∀ d i (h2 : i + d + 1 < r.2.length), r.2[i] < r.2[i + d + 1] := by
        intro d
        induction d with
        | zero => intro i h2; exact (h (i + 0 + 1) h2).2.2.2 (by omega)
        | succ d ih =>
          intro i h2
          have h3 := ih i (by omega)
          have h4 := (h (i + (d + 1) + 1) h2).2.2.2 (by omega)
          have e : i + (d + 1) + 1 - 1 = i + d + 1 := by omega
          simp only [e] at h4
          omega
      intro i j hi hj hij
      have := key (j - i - 1) i (by omega)
      have e : i + (j - i - 1) + 1 = j := by omega
      simp only [e] at this
      exact this
    · intro t ht
      obtain ⟨j, hj, rfl⟩ := List.getElem_of_mem ht
      exact ⟨(h j hj).2.1, (h j hj).2.2.1⟩
  · rintro ⟨h1, h2⟩ j hj
    have h3 := h2 _ (List.getElem_mem hj)
    exact ⟨by omega, h3.1, h3.2, fun h0 => List.pairwise_iff_getElem.1 h1 (j - 1) j (by omega) hj (by omega)⟩
end Go.Ab
