/- Chapter 05: the reference's full relation is the program's. -/
import Derived.Test.YtjglejfhbehfbaaDoorAjK5
set_option linter.unusedSimpArgs false
set_option linter.unusedVariables false
namespace Go.Ab
open Go Go.Proofs
set_option maxRecDepth 20000
set_option maxHeartbeats 4000000
theorem rks_bound {n : Int} (hn : 0 ≤ n) : ∀ (l : List (Int × Nat)), (∀ c ∈ l, 0 ≤ c.1 ∧ c.1 + c.2 ≤ n) → ∀ (p : Int), 0 ≤ p → Inc (rks n p l) ∧ ∀ t ∈ rks n p l, p * n ^ l.length ≤ t ∧ t < (p + 1) * n ^ l.length
  | [], _, p, _ => by rw [rks_nil]; simp; omega
  | (f, z) :: l, h, p, hp => by
    have hc := h (f, z) (by simp)
    simp only at hc
    have ih := rks_bound hn l fun c hc => h c (by simp [hc])
    have hpn : 0 ≤ p * n := Int.mul_nonneg hp hn
    have hm : 0 ≤ n ^ l.length := Int.pow_nonneg hn
    have hq : ∀ i : Nat, 0 ≤ p * n + (f + (i : Int)) := fun i => by omega
    show Inc ((List.range z).flatMap fun i => rks n (p * n + (f + (i : Nat))) l) ∧ _
    constructor
    · show List.Pairwise _ _
      rw [List.pairwise_flatMap]
      refine ⟨fun i _ => (ih _ (hq i)).1, ?_⟩
      refine List.pairwise_lt_range.imp fun {i j} hij x hx y hy => ?_
      have h1 := ((ih _ (hq i)).2 x hx).2
      have h2 := ((ih _ (hq j)).2 y hy).1
      have h3 : (p * n + (f + (i : Int)) + 1) * n ^ l.length ≤ (p * n + (f + (j : Int))) * n ^ l.length := Int.mul_le_mul_of_nonneg_right (by omega) hm
      omega
    · intro t ht
      obtain ⟨i, hi, ht⟩ := List.mem_flatMap.1 ht
      rw [List.mem_range] at hi
      obtain ⟨h1, h2⟩ := (ih _ (hq i)).2 t ht
      have e : n ^ ((f, z) :: l).length = n * n ^ l.length := by rw [List.length_cons, Int.pow_succ, Int.mul_comm]
      rw [e, ← Int.mul_assoc, ← Int.mul_assoc]
      have h3 : (p * n) * n ^ l.length ≤ (p * n + (f + (i : Int))) * n ^ l.length := Int.mul_le_mul_of_nonneg_right (by omega) hm
      have h4 : (p * n + (f + (i : Int)) + 1) * n ^ l.length ≤ ((p + 1) * n) * n ^ l.length := Int.mul_le_mul_of_nonneg_right (by rw [Int.add_mul]; omega) hm
      omega
theorem colL_ok {at' : List Int} (hp : ∀ y ∈ at', 0 ≤ y) {l : List Int} (hs : ∀ s ∈ l, 0 ≤ s ∧ s < at'.length) : ∀ c ∈ colL at' l, 0 ≤ c.1 ∧ c.1 + c.2 ≤ at'.sum := by
  intro c hc
  unfold colL at hc
  obtain ⟨s, h1, rfl⟩ := List.mem_map.1 hc
  have h2 := hs s h1
  have h3 := take_le hp (k := s.toNat) (by omega)
  have h4 : 0 ≤ at'.getD s.toNat 0 := by rw [getD_at (by omega)]; exact hp _ (List.getElem_mem _)
  simp only
  omega
theorem full_inc {at' : List Int} (hp : ∀ y ∈ at', 0 ≤ y) {l : List Int} (hs : ∀ s ∈ l, 0 ≤ s ∧ s < at'.length) : Inc (fullR at' l).2 :=
  (rks_bound (sum_nn hp) _ (colL_ok hp hs) 0 (Int.le_refl _)).1
theorem fitsB_snoc {at' : List Int} : ∀ {l : List Int} {ts : List Int} {s t : Int}, l.length = ts.length → fitsB at' (l ++ [s]) (ts ++ [t]) = (decide (sortF at' t 0 = s) && fitsB at' l ts)
  | [], [], s, t, _ => by simp [fitsB]
  | a :: l, b :: ts, s, t, h => by
    show (_ && fitsB at' (l ++ [s]) (ts ++ [t])) = (_ && (_ && _))
    rw [fitsB_snoc (by simpa using h), ← Bool.and_assoc, ← Bool.and_assoc, Bool.and_comm (decide _) (decide _)]
theorem fits_cols (at' : List Int) (n : Int) : ∀ (m : Nat) (l : List Int), l.length = m → ∀ r, fitsB at' l (digL n m r) = colsF at' n l.reverse r
  | 0, l, h, r => by obtain rfl := List.eq_nil_of_length_eq_zero h; rfl
  | m + 1, l, h, r => by
    obtain ⟨l', s, rfl⟩ : ∃ l' s, l = l' ++ [s] := ⟨l.dropLast, l.getLast (by intro e; subst e; simp at h), (List.dropLast_concat_getLast _).symm⟩
    have hm' : l'.length = m := by simpa using h
    rw [List.reverse_append]
    show fitsB at' (l' ++ [s]) (digL n m (r / n) ++ [r % n]) = colsF at' n (s :: l'.reverse) r
    rw [fitsB_snoc (by rw [digL_len]; exact hm'), fits_cols at' n m l' hm' (r / n)]
    rfl
theorem numsB_inc (p : Int → Bool) (m : Nat) : Inc (numsB p m) := by
  unfold numsB
  refine List.Pairwise.filter _ ?_
  rw [List.pairwise_map]
  exact List.pairwise_lt_range.imp fun h => by omega
theorem numsB_mem {p : Int → Bool} {m : Nat} {t : Int} : t ∈ numsB p m ↔ 0 ≤ t ∧ t < m ∧ p t = true := by
  unfold numsB
  rw [List.mem_filter, List.mem_map]
  constructor
  · rintro ⟨⟨i, hi, rfl⟩, h⟩
    rw [List.mem_range] at hi
    exact ⟨by omega, by omega, h⟩
  · rintro ⟨h1, h2, h3⟩
    exact ⟨⟨t.toNat, List.mem_range.2 (by omega), by omega⟩, h3⟩
theorem r5_full_eq {at' : List Int} (hp : ∀ y ∈ at', 0 ≤ y) {l : List Int} (hs : ∀ s ∈ l, 0 ≤ s ∧ s < at'.length) : numsB (fun r => fitsB at' l (digL at'.sum l.length r)) (at'.sum ^ l.length).toNat = (fullR at' l).2 := by
  have h0 : 0 ≤ at'.sum ^ l.length := Int.pow_nonneg (sum_nn hp)
  refine inc_ext (numsB_inc _ _) (full_inc hp hs) fun t => ?_
  rw [numsB_mem]
  show _ ↔ t ∈ rks at'.sum 0 (colL at' l)
  rw [mem_full hp l hs, fits_cols _ _ _ _ rfl]
  constructor
  · rintro ⟨h1, h2, h3⟩; exact ⟨h1, h3, by omega⟩
  · rintro ⟨h1, h2, h3⟩; exact ⟨h1, by omega, h2⟩
theorem r5FullR_fn (at' : List Int) (st : Int) (l : List Int) (hc : colsB at'.length l = true) (h : SmA at') (hs : at'.sum ≤ 1000) (hn : 1 ≤ at'.sum) :
    Fn Tryd.prog 29 [scp at' st, .pv (ints l)] (relA (fullR at' l)) := by
  have h1 := r5Full_fn at' st l hc h hs hn
  unfold colsB at hc
  rw [Bool.and_eq_true] at hc
  rw [r5_full_eq (fun y hy => (h.2 y hy).1) (insB_at hc.2)] at h1
  exact h1
end Go.Ab
