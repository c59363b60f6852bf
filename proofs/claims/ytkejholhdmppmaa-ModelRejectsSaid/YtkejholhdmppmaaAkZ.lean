/- Chapter 05 and 07: all tuples over columns; the two tests for a well-formed model are one. -/
import Derived.Test.YtkejholhdmppmaaAkM3
import Derived.Test.YtkejholhdmppmaaAkX
set_option linter.unusedSimpArgs false
set_option linter.unusedVariables false
namespace Go.Ab
open Go Go.Proofs
set_option maxRecDepth 20000
set_option maxHeartbeats 2000000
def colL (at' : List Int) (l : List Int) : List (Int × Nat) := l.map fun s => ((at'.take s.toNat).sum, (at'.getD s.toNat 0).toNat)
def fullR (at' : List Int) (l : List Int) : RelM := ((l.length : Int), rks at'.sum 0 (colL at' l))
theorem rngI_rks (n f : Int) (z : Nat) : rngI f z = rks n 0 [(f, z)] := by
  rw [rks_cons]
  induction z with
  | zero => rfl
  | succ z ih =>
    rw [rngI_succ, rksTo_succ, ih, rks_nil]
    congr 2
    omega
theorem insB_at {k : Nat} {l : List Int} (h : insB k l = true) : ∀ s ∈ l, 0 ≤ s ∧ s < k := by
  unfold insB at h
  rw [List.all_eq_true] at h
  intro s hs
  simpa using h s hs
theorem getD_at {at' : List Int} {k : Nat} (h : k < at'.length) : at'.getD k 0 = at'[k] := by rw [List.getD_eq_getElem?_getD, List.getElem?_eq_getElem h]; rfl
theorem full_fn (at' : List Int) (st : Int) (l : List Int) (hc : colsB at'.length l = true) (h : SmA at') (hsm : at'.sum ≤ 1000) : Fn Try.prog 24 [scp at' st, .pv (ints l)] (relA (fullR at' l)) := by
  unfold colsB at hc
  rw [Bool.and_eq_true, decide_eq_true_eq] at hc
  have hin := insB_at hc.2
  have hget : ∀ s : Int, s ∈ l → ∃ x : Nat, s = (x : Int) ∧ x < at'.length := fun s hs => ⟨s.toNat, by have := hin s hs; omega, by have := hin s hs; omega⟩
  unfold fullR
  match l, hc, hget with
  | [], hc, _ => simp at hc
  | [a], _, hget =>
    obtain ⟨x, rfl, hx⟩ := hget a (by simp)
    have := full1_fn at' st [(x : Int)] rfl x rfl hx h
    rw [rngI_rks at'.sum] at this
    simp only [colL, List.map_cons, List.map_nil, Int.toNat_natCast, getD_at hx]
    exact this
  | [a, b], _, hget =>
    obtain ⟨x, rfl, hx⟩ := hget a (by simp)
    obtain ⟨y, rfl, hy⟩ := hget b (by simp)
    have := full2_fn at' st [(x : Int), (y : Int)] rfl x y rfl rfl hx hy h hsm
    simp only [colL, List.map_cons, List.map_nil, Int.toNat_natCast, getD_at hx, getD_at hy]
    exact this
  | [a, b, c], _, hget =>
    obtain ⟨x, rfl, hx⟩ := hget a (by simp)
    obtain ⟨y, rfl, hy⟩ := hget b (by simp)
    obtain ⟨v, rfl, hv⟩ := hget c (by simp)
    have := full3_fn at' st [(x : Int), (y : Int), (v : Int)] rfl x y v rfl rfl rfl hx hy hv h hsm
    simp only [colL, List.map_cons, List.map_nil, Int.toNat_natCast, getD_at hx, getD_at hy, getD_at hv]
    exact this
  | a :: b :: c :: d :: r, hc, _ => simp at hc
/-! what is in it -/
theorem sum_nn : ∀ {l : List Int}, (∀ x ∈ l, 0 ≤ x) → 0 ≤ l.sum
  | [], _ => by simp
  | a :: l, h => by
    have := sum_nn (l := l) fun x hx => h x (by simp [hx])
    have := h a (by simp)
    simp; omega
theorem sortF_ge {l : List Int} : ∀ {x i : Int}, 0 ≤ i → sortF l x i = -1 ∨ i ≤ sortF l x i := by
  induction l with
  | nil => intro x i _; exact .inl rfl
  | cons a l ih =>
    intro x i hi
    unfold sortF
    split
    · right; omega
    · rcases ih (x := x - a) (i := i + 1) (by omega) with h | h
      · exact .inl h
      · right; omega
theorem sortF_iff {l : List Int} : ∀ {x i : Int} {k : Nat}, (∀ y ∈ l, 0 ≤ y) → 0 ≤ x → 0 ≤ i → k < l.length → (sortF l x i = i + k ↔ (l.take k).sum ≤ x ∧ x < (l.take k).sum + l.getD k 0) := by
  induction l with
  | nil => intro x i k _ _ _ hk; simp at hk
  | cons a l ih =>
    intro x i k hp hx hi hk
    unfold sortF
    have ha := hp a (by simp)
    have hpl : ∀ y ∈ l, 0 ≤ y := fun y hy => hp y (by simp [hy])
    cases k with
    | zero =>
      simp only [List.take_zero, List.sum_nil, List.getD_cons_zero]
      by_cases hc : x < a
      · rw [if_pos hc]; simp; omega
      · rw [if_neg hc]
        constructor
        · intro h
          rcases sortF_ge (l := l) (x := x - a) (i := i + 1) (by omega) with h2 | h2 <;> omega
        · omega
    | succ k =>
      simp only [List.take_succ_cons, List.sum_cons, List.getD_cons_succ]
      have hk' : k < l.length := by simpa using hk
      by_cases hc : x < a
      · rw [if_pos hc]
        have h2 : 0 ≤ (l.take k).sum := sum_nn fun y hy => hpl y (List.mem_of_mem_take hy)
        constructor
        · intro h; push_cast at h; omega
        · omega
      · rw [if_neg hc]
        have := ih (x := x - a) (i := i + 1) (k := k) hpl (by omega) (by omega) hk'
        push_cast
        rw [show i + ((k : Int) + 1) = i + 1 + k by omega, this]
        omega
theorem rks_snoc (n : Int) : ∀ (l : List (Int × Nat)) (p f : Int) (z : Nat) (t : Int), t ∈ rks n p (l ++ [(f, z)]) ↔ ∃ q ∈ rks n p l, ∃ i : Nat, i < z ∧ t = q * n + (f + i)
  | [], p, f, z, t => by
    simp only [List.nil_append, rks, List.mem_flatMap, List.mem_range, List.mem_singleton, exists_eq_left]
  | (f', z') :: l, p, f, z, t => by
    simp only [List.cons_append, rks, List.mem_flatMap, List.mem_range]
    constructor
    · rintro ⟨i, hi, h⟩
      obtain ⟨q, hq, r⟩ := (rks_snoc n l _ f z t).1 h
      exact ⟨q, ⟨i, hi, hq⟩, r⟩
    · rintro ⟨q, ⟨i, hi, hq⟩, r⟩
      exact ⟨i, hi, (rks_snoc n l _ f z t).2 ⟨q, hq, r⟩⟩
theorem take_le {at' : List Int} (hp : ∀ y ∈ at', 0 ≤ y) {k : Nat} (hk : k < at'.length) : 0 ≤ (at'.take k).sum ∧ (at'.take k).sum + at'.getD k 0 ≤ at'.sum := by
  refine ⟨sum_nn fun y hy => hp y (List.mem_of_mem_take hy), ?_⟩
  have e : at'.sum = (at'.take k).sum + (at'.drop k).sum := by rw [← List.sum_append, List.take_append_drop]
  have h2 : (at'.drop k).sum = at'[k] + (at'.drop (k + 1)).sum := by rw [List.drop_eq_getElem_cons hk, List.sum_cons]
  have h3 : 0 ≤ (at'.drop (k + 1)).sum := sum_nn fun y hy => hp y (List.mem_of_mem_drop hy)
  rw [getD_at hk]
  omega
theorem mem_full {at' : List Int} (hp : ∀ y ∈ at', 0 ≤ y) : ∀ (l : List Int), (∀ s ∈ l, 0 ≤ s ∧ s < at'.length) → ∀ t : Int, (t ∈ rks at'.sum 0 (colL at' l) ↔ 0 ≤ t ∧ colsF at' at'.sum l.reverse t = true ∧ t < at'.sum ^ l.length) := by
  intro l
  generalize hm : l.length = m
  induction m generalizing l with
  | zero =>
    intro _ t
    obtain rfl := List.eq_nil_of_length_eq_zero hm
    simp [colL, rks, colsF]
    omega
  | succ m ih =>
    intro hs t
    obtain ⟨l', s, rfl⟩ : ∃ l' s, l = l' ++ [s] := ⟨l.dropLast, l.getLast (by intro e; subst e; simp at hm), (List.dropLast_concat_getLast _).symm⟩
    have hm' : l'.length = m := by simpa using hm
    have hs' := hs s (by simp)
    have hsl : ∀ x ∈ l', 0 ≤ x ∧ x < at'.length := fun x hx => hs x (by simp [hx])
    obtain ⟨k, rfl⟩ : ∃ k : Nat, s = (k : Int) := ⟨s.toNat, by omega⟩
    have hk : k < at'.length := by omega
    have ht1 := take_le hp hk
    have e1 : colL at' (l' ++ [(k : Int)]) = colL at' l' ++ [((at'.take k).sum, (at'.getD k 0).toNat)] := by simp [colL]
    rw [e1, rks_snoc, List.reverse_append]
    show _ ↔ 0 ≤ t ∧ colsF at' at'.sum ((k : Int) :: l'.reverse) t = true ∧ _
    unfold colsF
    rw [Bool.and_eq_true, decide_eq_true_eq]
    have ih := ih l' hm' hsl
    have hzz : 0 ≤ at'.getD k 0 := by rw [getD_at hk]; exact hp _ (List.getElem_mem hk)
    by_cases hn : at'.sum = 0
    · constructor
      · rintro ⟨q, _, i, hi, _⟩; omega
      · rintro ⟨h0, _, h⟩
        rw [hn, Int.zero_pow (by omega)] at h
        omega
    have hpos : 0 < at'.sum := by omega
    have hiff := sortF_iff (l := at') (x := t % at'.sum) (i := 0) (k := k) hp (Int.emod_nonneg _ (by omega)) (by omega) hk
    rw [Int.zero_add] at hiff
    rw [hiff]
    generalize (at'.take k).sum = f at ht1 ⊢
    generalize at'.getD k 0 = z at ht1 hzz ⊢
    generalize at'.sum = n at *
    have hpw : n ^ (m + 1) = n ^ m * n := Int.pow_succ _ _
    constructor
    · rintro ⟨q, hq, i, hi, rfl⟩
      obtain ⟨q0, q1, q2⟩ := (ih q).1 hq
      have hu := (Int.ediv_emod_unique (a := q * n + (f + i)) (b := n) (r := f + i) (q := q) hpos).2 ⟨by rw [Int.mul_comm n q]; omega, by omega, by omega⟩
      rw [hu.1, hu.2]
      have h1 : 0 ≤ q * n := Int.mul_nonneg q0 (by omega)
      have h2 : (q + 1) * n ≤ n ^ m * n := Int.mul_le_mul_of_nonneg_right (by omega) (by omega)
      rw [Int.add_mul, Int.one_mul] at h2
      exact ⟨by omega, ⟨⟨by omega, by omega⟩, q1⟩, by rw [hpw]; omega⟩
    · rintro ⟨h0, ⟨⟨h1, h2⟩, h3⟩, h4⟩
      rw [hpw] at h4
      refine ⟨t / n, (ih _).2 ⟨Int.ediv_nonneg h0 (by omega), h3, Int.ediv_lt_of_lt_mul hpos h4⟩, (t % n - f).toNat, by omega, ?_⟩
      have := Int.mul_ediv_add_emod t n
      rw [Int.mul_comm] at this
      omega
end Go.Ab
