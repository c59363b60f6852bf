/- Chapter 05 and 07: all tuples over columns; the two tests for a well-formed model are one. -/
import Derived.Test.YtjglejfhbehfbaaDoorAjM3
import Derived.Test.YtjglejfhbehfbaaDoorAjX
set_option linter.unusedSimpArgs false
set_option linter.unusedVariables false
namespace Go.Ab
open Go Go.Proofs
set_option maxRecDepth 20000
set_option maxHeartbeats 2000000
def colL (at' : List Int) (l : List Int) : List (Int × Nat) := l.map fun s => ((at'.take s.toNat).sum, (at'.getD s.toNat 0).toNat)
def fullR (at' : List Int) (l : List Int) : RelM := ((l.length : Int), rks at'.sum 0 (colL at' l))
theorem rngI_rks (n f : Int) (z : Nat) : rngI f z = rks n 0 [(f, z)] := by
  rw [rks_cons]
  induction z with
  | zero => rfl
  | succ z ih =>
    rw [rngI_succ, rksTo_succ, ih, rks_nil]
    congr 2
    omega
theorem insB_at {k : Nat} {l : List Int} (h : insB k l = true) : ∀ s ∈ l, 0 ≤ s ∧ s < k := by
  unfold insB at h
  rw [List.all_eq_true] at h
  intro s hs
  simpa using h s hs
theorem getD_at {at' : List Int} {k : Nat} (h : k < at'.length) : at'.getD k 0 = at'[k] := by rw [List.getD_eq_getElem?_getD, List.getElem?_eq_getElem h]; rfl
theorem full_fn (at' : List Int) (st : Int) (l : List Int) (hc : colsB at'.length l = true) (h : SmA at') (hsm : at'.sum ≤ 1000) : Fn Tryd.prog 28 [scp at' st, .pv (ints l)] (relA (fullR at' l)) := by
  unfold colsB at hc
  rw [Bool.and_eq_true, decide_eq_true_eq] at hc
  have hin := insB_at hc.2
  have hget : ∀ s : Int, s ∈ l → ∃ x : Nat, s = (x : Int) ∧ x < at'.length := fun s hs => ⟨s.toNat, by have := hin s hs; omega, by have := hin s hs; omega⟩
  unfold fullR
  match l, hc, hget with
  | [], hc, _ => simp at hc
  | [a], _, hget =>
    obtain ⟨x, rfl, hx⟩ := hget a (by simp)
    have := full1_fn at' st [(x : Int)] rfl x rfl hx h
    rw [rngI_rks at'.sum] at this
    simp only [colL, List.map_cons, List.map_nil, Int.toNat_natCast, getD_at hx]
    exact this
  | [a, b], _, hget =>
    obtain ⟨x, rfl, hx⟩ := hget a (by simp)
    obtain ⟨y, rfl, hy⟩ := hget b (by simp)
    have := full2_fn at' st [(x : Int), (y : Int)] rfl x y rfl rfl hx hy h hsm
    simp only [colL, List.map_cons, List.map_nil, Int.toNat_natCast, getD_at hx, getD_at hy]
    exact this
  | [a, b, c], _, hget =>
    obtain ⟨x, rfl, hx⟩ := hget a (by simp)
    obtain ⟨y, rfl, hy⟩ := hget b (by simp)
    obtain ⟨v, rfl, hv⟩ := hget c (by simp)
    have := full3_fn at' st [(x : Int), (y : Int), (v : Int)] rfl x y v rfl rfl rfl hx hy hv h hsm
    simp only [colL, List.map_cons, List.map_nil, Int.toNat_natCast, getD_at hx, getD_at hy, getD_at hv]
    exact this
  | a :: b :: c :: d :: r, hc, _ => simp at hc
/-! what is in it -/
theorem sum_nn : ∀ {l : List Int}, (∀ x ∈ l, 0 ≤ x) → 0 ≤ l.sum
  | [], _ => by simp
  | a :: l, h => by
    have := sum_nn (l := l) fun x hx => h x (by simp [hx])
    have := h a (by simp)
    simp; omega
theorem sortF_ge {l : List Int} : ∀ {x i : Int}, 0 ≤ i → sortF l x i = -1 ∨ i ≤ sortF l x i := by
  induction l with
  | nil => intro x i _; exact .inl rfl
  | cons a l ih =>
    intro x i hi
    unfold sortF
    split
    · right; omega
    · rcases ih (x := x - a) (i := i + 1) (by omega) with h | h
      · exact .inl h
      · right; omega
theorem sortF_iff {l : List Int} : ∀ {x i : Int} {k : Nat}, (∀ y ∈ l, 0 ≤ y) → 0 ≤ x → 0 ≤ i → k < l.length → (sortF l x i = i + k ↔ (l.take k).sum ≤ x ∧ x < (l.take k).sum + l.getD k 0) := by
  induction l with
  | nil => intro x i k _ _ _ hk; simp at hk
  | cons a l ih =>
    intro x i k hp hx hi hk
    unfold sortF
    have ha := hp a (by simp)
    have hpl : ∀ y ∈ l, 0 ≤ y := fun y hy => hp y (by simp [hy])
    cases k with
    | zero =>
      simp only [List.take_zero, List.sum_nil, List.getD_cons_zero]
      by_cases hc : x < a
      · rw [if_pos hc]; simp; omega
      · rw [if_neg hc]
        constructor
        · intro h
          rcases sortF_ge (l := l) (x := x - a) (i := i + 1) (by omega) with h2 | h2 <;> omega
        · omega
    | succ k =>
      simp only [List.take_succ_cons, List.sum_cons, List.getD_cons_succ]
      have hk' : k < l.length := by simpa using hk
      by_cases hc : x < a
      · rw [if_pos hc]
        have h2 : 0 ≤ (l.take k).sum := sum_nn fun y hy => hpl y (List.mem_of_mem_take hy)
        constructor
        · intro h; push_cast at h; omega
        · omega
      · rw [if_neg hc]
        have := ih (x := x - a) (i := i + 1) (k := k) hpl (by omega) (by omega) hk'
        push_cast
        rw [show i + ((k : Int) + 1) = i + 1 + k by omega, this]
        omega
end Go.Ab
