/- Chapter 05 and 07: all tuples over columns; the two tests for a well-formed model are one. -/
import Derived.Test.YtijkecidjjicbaaDoorArX
import Derived.Test.YtijkecidjjicbaaDoorAbZ
import Derived.Test.YtijkecidjjicbaaDoorArM2
import Derived.Test.YtijkecidjjicbaaDoorAbL2
import Derived.Test.YtijkecidjjicbaaDoorAbL3
import Derived.Shelf.Strings.Builder1
import Derived.Shelf.Strings.Builder2
import Derived.Shelf.Strings.OnBuilder
import Derived.Shelf.Strconv.Atoi
import Derived.Shelf.Strconv.Itoa0
import Derived.Shelf.Strconv.Itoa1
import Derived.Shelf.LaysM
import Derived.Shelf.Strconv.Itoa2
import Derived.Shelf.Strconv.Itoa3
import Derived.Shelf.Strconv.AtoiErrFast
import Derived.Shelf.Strconv.ParseIntEmpty
import Derived.Shelf.Strconv.AtoiFail
import Derived.Shelf.Strconv.Clone
import Derived.Shelf.Strconv.SyntaxError
import Derived.Shelf.LaysC
import Derived.Shelf.Strconv.ToError
import Derived.Shelf.Strconv.Lower
import Derived.Shelf.Strconv.ParseUint10
import Derived.Shelf.Strconv.ParseUint10Empty
import Derived.Shelf.Strconv.ParseUint10Any
import Derived.Shelf.Strconv.ParseInt10
import Derived.Shelf.Strconv.AtoiLong
import Derived.Shelf.Strconv.AtoiInnerAll
import Derived.Shelf.Strconv.RangeError
import Derived.Shelf.Strconv.ToErrorRange
import Derived.Shelf.Strconv.AtoiAll
import Derived.Shelf.Strconv.ErrVarAll
import Derived.Shelf.Slices.Equal
import Derived.Shelf.Slices.Empties2
import Derived.Test.YtijkecidjjicbaaDoorProg
set_option linter.unusedSimpArgs false
set_option linter.unusedVariables false
namespace Go.Ab
open Go Go.Proofs
set_option maxRecDepth 20000
set_option maxHeartbeats 2000000
def colL (at' : List Int) (l : List Int) : List (Int × Nat) := l.map fun s => ((at'.take s.toNat).sum, (at'.getD s.toNat 0).toNat)
def fullR (at' : List Int) (l : List Int) : RelM := ((l.length : Int), rks at'.sum 0 (colL at' l))
theorem rngI_rks (n f : Int) (z : Nat) : rngI f z = rks n 0 [(f, z)] := by
  rw [rks_cons]
  induction z with
  | zero => rfl
  | succ z ih =>
    rw [rngI_succ, rksTo_succ, ih, rks_nil]
    congr 2
    omega
theorem insB_at {k : Nat} {l : List Int} (h : insB k l = true) : ∀ s ∈ l, 0 ≤ s ∧ s < k := by
  unfold insB at h
  rw [List.all_eq_true] at h
  intro s hs
  simpa using h s hs
theorem getD_at {at' : List Int} {k : Nat} (h : k < at'.length) : at'.getD k 0 = at'[k] := by rw [List.getD_eq_getElem?_getD, List.getElem?_eq_getElem h]; rfl
theorem full_fn (at' : List Int) (st : Int) (l : List Int) (hc : colsB at'.length l = true) (h : SmA at') (hsm : at'.sum ≤ 1000) : Fn Tryd.prog 46 [scp at' st, .pv (ints l)] (relA (fullR at' l)) := by
  unfold colsB at hc
  rw [Bool.and_eq_true, decide_eq_true_eq] at hc
  have hin := insB_at hc.2
  have hget : ∀ s : Int, s ∈ l → ∃ x : Nat, s = (x : Int) ∧ x < at'.length := fun s hs => ⟨s.toNat, by have := hin s hs; omega, by have := hin s hs; omega⟩
  unfold fullR
  match l, hc, hget with
  | [], hc, _ => simp at hc
  | [a], _, hget =>
    obtain ⟨x, rfl, hx⟩ := hget a (by simp)
    have := full1_fn at' st [(x : Int)] rfl x rfl hx h
    rw [rngI_rks at'.sum] at this
    simp only [colL, List.map_cons, List.map_nil, Int.toNat_natCast, getD_at hx]
    exact this
  | [a, b], _, hget =>
    obtain ⟨x, rfl, hx⟩ := hget a (by simp)
    obtain ⟨y, rfl, hy⟩ := hget b (by simp)
    have := full2_fn at' st [(x : Int), (y : Int)] rfl x y rfl rfl hx hy h hsm
    simp only [colL, List.map_cons, List.map_nil, Int.toNat_natCast, getD_at hx, getD_at hy]
    exact this
  | [a, b, c], _, hget =>
    obtain ⟨x, rfl, hx⟩ := hget a (by simp)
    obtain ⟨y, rfl, hy⟩ := hget b (by simp)
    obtain ⟨v, rfl, hv⟩ := hget c (by simp)
    have := full3_fn at' st [(x : Int), (y : Int), (v : Int)] rfl x y v rfl rfl rfl hx hy hv h hsm
    simp only [colL, List.map_cons, List.map_nil, Int.toNat_natCast, getD_at hx, getD_at hy, getD_at hv]
    exact this
  | a :: b :: c :: d :: r, hc, _ => simp at hc
theorem sum_nn : ∀ {l : List Int}, (∀ x ∈ l, 0 ≤ x) → 0 ≤ l.sum
  | [], _ => by simp
  | a :: l, h => by
    have := sum_nn (l := l) fun x hx => h x (by simp [hx])
    have := h a (by simp)
    simp; omega
theorem sortF_ge {l : List Int} : ∀ {x i : Int}, 0 ≤ i → sortF l x i = -1 ∨ i ≤ sortF l x i := by
  induction l with
  | nil => intro x i _; exact .inl rfl
  | cons a l ih =>
    intro x i hi
    unfold sortF
    split
    · right; omega
    · rcases ih (x := x - a) (i := i + 1) (by omega) with h | h
      · exact .inl h
      · right; omega
theorem sortF_iff {l : List Int} : ∀ {x i : Int} {k : Nat}, (∀ y ∈ l, 0 ≤ y) → 0 ≤ x → 0 ≤ i → k < l.length → (sortF l x i = i + k ↔ (l.take k).sum ≤ x ∧ x < (l.take k).sum + l.getD k 0) := by
  induction l with
  | nil => intro x i k _ _ _ hk; simp at hk
  | cons a l ih =>
    intro x i k hp hx hi hk
    unfold sortF
    have ha := hp a (by simp)
    have hpl : ∀ y ∈ l, 0 ≤ y := fun y hy => hp y (by simp [hy])
    cases k with
    | zero =>
      simp only [List.take_zero, List.sum_nil, List.getD_cons_zero]
      by_cases hc : x < a
      · rw [if_pos hc]; simp; omega
      · rw [if_neg hc]
        constructor
        · intro h
          rcases sortF_ge (l := l) (x := x - a) (i := i + 1) (by omega) with h2 | h2 <;> omega
        · omega
    | succ k =>
      simp only [List.take_succ_cons, List.sum_cons, List.getD_cons_succ]
      have hk' : k < l.length := by simpa using hk
      by_cases hc : x < a
      · rw [if_pos hc]
        have h2 : 0 ≤ (l.take k).sum := sum_nn fun y hy => hpl y (List.mem_of_mem_take hy)
        constructor
        · intro h; push_cast at h; omega
        · omega
      · rw [if_neg hc]
        have := ih (x := x - a) (i := i + 1) (k := k) hpl (by omega) (by omega) hk'
        push_cast
        rw [show i + ((k : Int) + 1) = i + 1 + k by omega, this]
        omega
theorem rks_snoc (n : Int) : ∀ (l : List (Int × Nat)) (p f : Int) (z : Nat) (t : Int), t ∈ rks n p (l ++ [(f, z)]) ↔ ∃ q ∈ rks n p l, ∃ i : Nat, i < z ∧ t = q * n + (f + i)
  | [], p, f, z, t => by
    simp only [List.nil_append, rks, List.mem_flatMap, List.mem_range, List.mem_singleton, exists_eq_left]
  | (f', z') :: l, p, f, z, t => by
    simp only [List.cons_append, rks, List.mem_flatMap, List.mem_range]
    constructor
    · rintro ⟨i, hi, h⟩
      obtain ⟨q, hq, r⟩ := (rks_snoc n l _ f z t).1 h
      exact ⟨q, ⟨i, hi, hq⟩, r⟩
    · rintro ⟨q, ⟨i, hi, hq⟩, r⟩
      exact ⟨i, hi, (rks_snoc n l _ f z t).2 ⟨q, hq, r⟩⟩
theorem take_le {at' : List Int} (hp : ∀ y ∈ at', 0 ≤ y) {k : Nat} (hk : k < at'.length) : 0 ≤ (at'.take k).sum ∧ (at'.take k).sum + at'.getD k 0 ≤ at'.sum := by
  refine ⟨sum_nn fun y hy => hp y (List.mem_of_mem_take hy), ?_⟩
  have e : at'.sum = (at'.take k).sum + (at'.drop k).sum := by rw [← List.sum_append, List.take_append_drop]
  have h2 : (at'.drop k).sum = at'[k] + (at'.drop (k + 1)).sum := by rw [List.drop_eq_getElem_cons hk, List.sum_cons]
  have h3 : 0 ≤ (at'.drop (k + 1)).sum := sum_nn fun y hy => hp y (List.mem_of_mem_drop hy)
  rw [getD_at hk]
  omega
theorem mem_full {at' : List Int} (hp : ∀ y ∈ at', 0 ≤ y) : ∀ (l : List Int), (∀ s ∈ l, 0 ≤ s ∧ s < at'.length) → ∀ t : Int, (t ∈ rks at'.sum 0 (colL at' l) ↔ 0 ≤ t ∧ colsF at' at'.sum l.reverse t = true ∧ t < at'.sum ^ l.length) := by
  intro l
  generalize hm : l.length = m
  induction m generalizing l with
  | zero =>
    intro _ t
    obtain rfl := List.eq_nil_of_length_eq_zero hm
    simp [colL, rks, colsF]
    omega
  | succ m ih =>
    intro hs t
    obtain ⟨l', s, rfl⟩ : ∃ l' s, l = l' ++ [s] := ⟨l.dropLast, l.getLast (by intro e; subst e; simp at hm), (List.dropLast_concat_getLast _).symm⟩
    have hm' : l'.length = m := by simpa using hm
    have hs' := hs s (by simp)
    have hsl : ∀ x ∈ l', 0 ≤ x ∧ x < at'.length := fun x hx => hs x (by simp [hx])
    obtain ⟨k, rfl⟩ : ∃ k : Nat, s = (k : Int) := ⟨s.toNat, by omega⟩
    have hk : k < at'.length := by omega
    have ht1 := take_le hp hk
    have e1 : colL at' (l' ++ [(k : Int)]) = colL at' l' ++ [((at'.take k).sum, (at'.getD k 0).toNat)] := by simp [colL]
    rw [e1, rks_snoc, List.reverse_append]
    show _ ↔ 0 ≤ t ∧ colsF at' at'.sum ((k : Int) :: l'.reverse) t = true ∧ _
    unfold colsF
    rw [Bool.and_eq_true, decide_eq_true_eq]
    have ih := ih l' hm' hsl
    have hzz : 0 ≤ at'.getD k 0 := by rw [getD_at hk]; exact hp _ (List.getElem_mem hk)
    by_cases hn : at'.sum = 0
    · constructor
      · rintro ⟨q, _, i, hi, _⟩; omega
      · rintro ⟨h0, _, h⟩
        rw [hn, Int.zero_pow (by omega)] at h
        omega
    have hpos : 0 < at'.sum := by omega
    have hiff := sortF_iff (l := at') (x := t % at'.sum) (i := 0) (k := k) hp (Int.emod_nonneg _ (by omega)) (by omega) hk
    rw [Int.zero_add] at hiff
    rw [hiff]
    generalize (at'.take k).sum = f at ht1 ⊢
    generalize at'.getD k 0 = z at ht1 hzz ⊢
    generalize at'.sum = n at *
    have hpw : n ^ (m + 1) = n ^ m * n := Int.pow_succ _ _
    constructor
    · rintro ⟨q, hq, i, hi, rfl⟩
      obtain ⟨q0, q1, q2⟩ := (ih q).1 hq
      have hu := (Int.ediv_emod_unique (a := q * n + (f + i)) (b := n) (r := f + i) (q := q) hpos).2 ⟨by rw [Int.mul_comm n q]; omega, by omega, by omega⟩
      rw [hu.1, hu.2]
      have h1 : 0 ≤ q * n := Int.mul_nonneg q0 (by omega)
      have h2 : (q + 1) * n ≤ n ^ m * n := Int.mul_le_mul_of_nonneg_right (by omega) (by omega)
      rw [Int.add_mul, Int.one_mul] at h2
      exact ⟨by omega, ⟨⟨by omega, by omega⟩, q1⟩, by rw [hpw]; omega⟩
    · rintro ⟨h0, ⟨⟨h1, h2⟩, h3⟩, h4⟩
      rw [hpw] at h4
      refine ⟨t / n, (ih _).2 ⟨Int.ediv_nonneg h0 (by omega), h3, Int.ediv_lt_of_lt_mul hpos h4⟩, (t % n - f).toNat, by omega, ?_⟩
      have := Int.mul_ediv_add_emod t n
      rw [Int.mul_comm] at this
      omega
theorem sub_within {at' : List Int} (hp : ∀ y ∈ at', 0 ≤ y) (hn : 1 ≤ at'.sum) {l : List Int} (hs : ∀ s ∈ l, 0 ≤ s ∧ s < at'.length) {r : RelM} (ha : r.1 = l.length) (hr : relOk at'.sum r = true) : subL r.2 (fullR at' l).2 = withinB at' (max 1 at'.sum) l r.2 := by
  have e : max 1 at'.sum = at'.sum := by omega
  rw [e]
  unfold subL withinB
  unfold relOk at hr
  rw [Bool.and_eq_true, decide_eq_true_eq] at hr
  have hin := incrB_at (by omega) |>.1 hr.2
  have hall : ∀ t ∈ r.2, 0 ≤ t ∧ t < at'.sum ^ l.length := by
    intro t ht
    obtain ⟨j, hj, rfl⟩ := List.getElem_of_mem ht
    have h1 := hin j hj
    have h2 : r.1.toNat = l.length := by omega
    rw [h2] at h1
    exact ⟨by omega, by omega⟩
  rw [Bool.eq_iff_iff, List.all_eq_true, List.all_eq_true]
  constructor
  · intro h t ht
    have h1 := h t ht
    rw [decide_eq_true_eq] at h1
    exact ((mem_full hp l hs t).1 h1).2.1
  · intro h t ht
    rw [decide_eq_true_eq]
    exact (mem_full hp l hs t).2 ⟨(hall t ht).1, h t ht, (hall t ht).2⟩
theorem rFlds_iff {n : Int} {at' : List Int} {nf k : Nat} {ss : List (List RelM)} : ∀ {fs : List FieldM} {i : Nat}, rFlds n at' nf k ss i fs = true ↔ ∀ j (h : j < fs.length), colsB k fs[j].sorts = true ∧ ∀ s ∈ ss, rRow n at' nf (i + j) fs[j] (ss.headD []) s = true
  | [], i => by simp [rFlds]
  | f :: fs, i => by
    unfold rFlds rRows
    rw [Bool.and_eq_true, Bool.and_eq_true, List.all_eq_true, rFlds_iff]
    constructor
    · rintro ⟨⟨h1, h2⟩, h3⟩ j hj
      cases j with
      | zero => exact ⟨h1, h2⟩
      | succ j =>
        have := h3 j (by simpa using hj)
        rw [show i + 1 + j = i + (j + 1) by omega] at this
        exact this
    · intro h
      refine ⟨⟨(h 0 (by simp)).1, (h 0 (by simp)).2⟩, fun j hj => ?_⟩
      have := h (j + 1) (by simpa using hj)
      rw [show i + (j + 1) = i + 1 + j by omega] at this
      exact this
theorem cellsB_iff {n : Int} {full : List Int → RelM} : ∀ {fs : List FieldM} {s s0 : List RelM} (h1 : s.length = fs.length) (h2 : s0.length = fs.length), cellsB n full fs s s0 = true ↔ ∀ j (h : j < fs.length), cellB n full fs[j] (s[j]'(by omega)) (s0[j]'(by omega)) = true
  | [], s, s0, _, _ => by
    constructor
    · intro _ j h; simp at h
    · intro _; unfold cellsB; rfl
  | f :: fs, [], _, h1, _ => by simp at h1
  | f :: fs, _ :: _, [], _, h2 => by simp at h2
  | f :: fs, r :: s, r0 :: s0, h1, h2 => by
    unfold cellsB
    rw [Bool.and_eq_true, cellsB_iff (by simpa using h1) (by simpa using h2)]
    constructor
    · rintro ⟨ha, hb⟩ j hj
      cases j with
      | zero => exact ha
      | succ j => exact hb j (by simpa using hj)
    · intro h
      exact ⟨h 0 (by simp), fun j hj => h (j + 1) (by simpa using hj)⟩
theorem valid_eq (s : SpecM) (m : ModM) : rValidB s m = validB (fullR m.atoms) s m := by
  unfold rValidB validB
  cases hsc : scopeOk s.sorts.length m.atoms m.steps with
  | false => rfl
  | true =>
  rw [Bool.true_and, Bool.true_and]
  cases hsh : shapeB m with
  | false => rfl
  | true =>
  rw [Bool.true_and, Bool.true_and]
  obtain ⟨hs1, hs2, hs3, hs4, hs5, hs6, hsm⟩ := scopeOk_spec hsc
  have hp : ∀ y ∈ m.atoms, 0 ≤ y := fun y hy => (hsm.2 y hy).1
  unfold shapeB at hsh
  rw [decide_eq_true_eq] at hsh
  have hne : m.states.headD [] ∈ m.states := by
    cases h : m.states with
    | nil => rw [h] at hsh; simp at hsh; omega
    | cons a l => simp
  have hn1 : ∀ f ∈ s.fields, colsB s.sorts.length f.sorts = true → 1 ≤ m.atoms.sum := by
    intro f _ hc
    unfold colsB at hc
    rw [Bool.and_eq_true, decide_eq_true_eq] at hc
    have hin := insB_at hc.2
    match hl : f.sorts, hc with
    | [], hc => simp at hc
    | a :: l, hc =>
      have ha := hin a (by rw [hl]; simp)
      have hlen : 0 < m.atoms.length := by omega
      match hat : m.atoms, hlen with
      | x :: r, _ =>
        have h1 := sizesOk_all.1 hs5 x (by rw [hat]; simp)
        have h2 := sum_nn (l := r) fun y hy => hp y (by rw [hat]; simp [hy])
        simp; omega
  have cell : ∀ f ∈ s.fields, colsB s.sorts.length f.sorts = true → ∀ r r0, rCell m.atoms.sum m.atoms f r r0 = cellB m.atoms.sum (fullR m.atoms) f r r0 := by
    intro f hf hc r r0
    unfold rCell cellB
    by_cases h1 : r.1 = f.sorts.length
    · cases h2 : relOk m.atoms.sum r with
      | false => rfl
      | true =>
        have hc' := hc
        unfold colsB at hc'
        rw [Bool.and_eq_true] at hc'
        rw [sub_within hp (hn1 f hf hc) (fun x hx => by have := insB_at hc'.2 x hx; omega) h1 h2]
    · rw [decide_eq_false h1]; rfl
  rw [Bool.eq_iff_iff, Bool.and_eq_true, Bool.and_eq_true, rFlds_iff]
  unfold lensB fieldsB statesB
  rw [List.all_eq_true, List.all_eq_true, List.all_eq_true]
  constructor
  · rintro ⟨h1, h2⟩
    have hlen : ∀ x ∈ m.states, x.length = s.fields.length := fun x hx => by simpa using h2 x hx
    refine ⟨fun f hf => ?_, fun x hx => ?_⟩
    · obtain ⟨j, hj, rfl⟩ := List.getElem_of_mem hf
      exact (h1 j hj).1
    · unfold stateB
      rw [decide_eq_true (hlen x hx), Bool.true_and, cellsB_iff (hlen x hx) (hlen _ hne)]
      intro j hj
      have h3 := (h1 j hj).2 x hx
      unfold rRow at h3
      rw [decide_eq_true (hlen x hx), Bool.true_and, Nat.zero_add, List.getD_eq_getElem?_getD, List.getElem?_eq_getElem (by rw [hlen x hx]; exact hj), List.getD_eq_getElem?_getD, List.getElem?_eq_getElem (by rw [hlen _ hne]; exact hj)] at h3
      rw [← cell _ (List.getElem_mem hj) (h1 j hj).1]
      exact h3
  · rintro ⟨h1, h2⟩
    have hlen : ∀ x ∈ m.states, x.length = s.fields.length := fun x hx => by
      have := h2 x hx
      unfold stateB at this
      rw [Bool.and_eq_true] at this
      simpa using this.1
    refine ⟨fun j hj => ⟨h1 _ (List.getElem_mem hj), fun x hx => ?_⟩, fun x hx => by simpa using hlen x hx⟩
    have h3 := h2 x hx
    unfold stateB at h3
    rw [decide_eq_true (hlen x hx), Bool.true_and, cellsB_iff (hlen x hx) (hlen _ hne)] at h3
    unfold rRow
    rw [decide_eq_true (hlen x hx), Bool.true_and, Nat.zero_add, List.getD_eq_getElem?_getD, List.getElem?_eq_getElem (by rw [hlen x hx]; exact hj), List.getD_eq_getElem?_getD, List.getElem?_eq_getElem (by rw [hlen _ hne]; exact hj)]
    have h4 := h3 j hj
    rw [← cell _ (List.getElem_mem hj) (h1 _ (List.getElem_mem hj))] at h4
    exact h4
end Go.Ab
/- Rising lists of numbers. -/
namespace Go.Ab
open Go Go.Proofs
abbrev Inc (l : List Int) : Prop := l.Pairwise (· < ·)
theorem inc_ext : ∀ {a b : List Int}, Inc a → Inc b → (∀ x, x ∈ a ↔ x ∈ b) → a = b
  | [], [], _, _, _ => rfl
  | [], y :: b, _, _, h => by have := (h y).2 (by simp); simp at this
  | x :: a, [], _, _, h => by have := (h x).1 (by simp); simp at this
  | x :: a, y :: b, ha, hb, h => by
    have ha' := List.pairwise_cons.1 ha
    have hb' := List.pairwise_cons.1 hb
    have hxy : x = y := by
      have h1 := (h x).1 (by simp)
      have h2 := (h y).2 (by simp)
      rcases List.mem_cons.1 h1 with e | h1
      · exact e
      · rcases List.mem_cons.1 h2 with e | h2
        · exact e.symm
        · have := hb'.1 x h1
          have := ha'.1 y h2
          omega
    subst hxy
    rw [inc_ext ha'.2 hb'.2 fun z => ?_]
    constructor
    · intro hz
      have h1 := ha'.1 z hz
      rcases List.mem_cons.1 ((h z).1 (by simp [hz])) with e | h2
      · omega
      · exact h2
    · intro hz
      have h1 := hb'.1 z hz
      rcases List.mem_cons.1 ((h z).2 (by simp [hz])) with e | h2
      · omega
      · exact h2
end Go.Ab
/- Chapter 05's reference: first atoms, sorts, ranks, tuples. -/
namespace Go.Ab
open Go Go.Proofs
set_option maxRecDepth 20000
set_option maxHeartbeats 4000000
theorem sortF_at {l : List Int} (hp : ∀ y ∈ l, 0 ≤ y) {x : Int} (hx : 0 ≤ x) {k : Nat} (hk : k < l.length) : sortF l x 0 = k ↔ (l.take k).sum ≤ x ∧ x < (l.take (k + 1)).sum := by
  have := sortF_iff (l := l) (x := x) (i := 0) (k := k) hp hx (by omega) hk
  rw [Int.zero_add, getD_at hk] at this
  rw [this, sum_snoc l hk]
def digL (n : Int) : Nat → Int → List Int
  | 0, _ => []
  | k + 1, r => digL n k (r / n) ++ [r % n]
theorem digL_len (n : Int) : ∀ (k : Nat) (r : Int), (digL n k r).length = k
  | 0, _ => rfl
  | k + 1, r => by simp [digL, digL_len n k]
attribute [local irreducible] AW AOps thenD inBlockD AR iterEnds roundEndsN inlEnds noGotoD
end Go.Ab
/- Chapter 05's reference: the atoms of a rank. -/
namespace Go.Ab
open Go Go.Proofs
set_option maxRecDepth 20000
set_option maxHeartbeats 4000000
theorem set_zeros {j : Nat} {D E : List Int} {x : Int} : (List.replicate (j + 1) 0 ++ D ++ E).set j x = List.replicate j 0 ++ (x :: D) ++ E := by
  rw [List.append_assoc, List.set_append_left _ _ (by simp), List.append_assoc]
  have e : (List.replicate (j + 1) (0 : Int)).set j x = List.replicate j 0 ++ [x] := by
    rw [List.replicate_succ', List.set_append_right _ _ (by simp)]
    simp
  rw [e]
  simp
attribute [local irreducible] AW AOps thenD inBlockD AR iterEnds roundEndsN inlEnds noGotoD
end Go.Ab
/- Chapter 05's reference: a tuple's atoms against sorts. -/
namespace Go.Ab
open Go Go.Proofs
set_option maxRecDepth 20000
set_option maxHeartbeats 4000000
def fitsB (at' : List Int) : List Int → List Int → Bool
  | s :: ss, t :: ts => decide (sortF at' t 0 = s) && fitsB at' ss ts
  | _, _ => true
attribute [local irreducible] AW AOps thenD inBlockD AR iterEnds roundEndsN inlEnds noGotoD
end Go.Ab
/- Chapter 05's reference: all tuples whose atoms have the columns' sorts. -/
namespace Go.Ab
open Go Go.Proofs
set_option maxRecDepth 20000
set_option maxHeartbeats 4000000
def numsB (p : Int → Bool) (m : Nat) : List Int := ((List.range m).map fun (i : Nat) => (i : Int)).filter p
attribute [local irreducible] AW AOps thenD inBlockD AR iterEnds roundEndsN inlEnds noGotoD numsB digL fitsB
end Go.Ab
/- Chapter 05's reference: scopes that fit. -/
namespace Go.Ab
open Go Go.Proofs
set_option maxRecDepth 20000
set_option maxHeartbeats 4000000
attribute [local irreducible] AW AOps thenD inBlockD AR iterEnds roundEndsN inlEnds noGotoD
end Go.Ab
/- Chapter 05: the reference's full relation is the program's. -/
namespace Go.Ab
open Go Go.Proofs
set_option maxRecDepth 20000
set_option maxHeartbeats 4000000
theorem rks_bound {n : Int} (hn : 0 ≤ n) : ∀ (l : List (Int × Nat)), (∀ c ∈ l, 0 ≤ c.1 ∧ c.1 + c.2 ≤ n) → ∀ (p : Int), 0 ≤ p → Inc (rks n p l) ∧ ∀ t ∈ rks n p l, p * n ^ l.length ≤ t ∧ t < (p + 1) * n ^ l.length
  | [], _, p, _ => by rw [rks_nil]; simp; omega
  | (f, z) :: l, h, p, hp => by
    have hc := h (f, z) (by simp)
    simp only at hc
    have ih := rks_bound hn l fun c hc => h c (by simp [hc])
    have hpn : 0 ≤ p * n := Int.mul_nonneg hp hn
    have hm : 0 ≤ n ^ l.length := Int.pow_nonneg hn
    have hq : ∀ i : Nat, 0 ≤ p * n + (f + (i : Int)) := fun i => by omega
    show Inc ((List.range z).flatMap fun i => rks n (p * n + (f + (i : Nat))) l) ∧ _
    constructor
    · show List.Pairwise _ _
      rw [List.pairwise_flatMap]
      refine ⟨fun i _ => (ih _ (hq i)).1, ?_⟩
      refine List.pairwise_lt_range.imp fun {i j} hij x hx y hy => ?_
      have h1 := ((ih _ (hq i)).2 x hx).2
      have h2 := ((ih _ (hq j)).2 y hy).1
      have h3 : (p * n + (f + (i : Int)) + 1) * n ^ l.length ≤ (p * n + (f + (j : Int))) * n ^ l.length := Int.mul_le_mul_of_nonneg_right (by omega) hm
      omega
    · intro t ht
      obtain ⟨i, hi, ht⟩ := List.mem_flatMap.1 ht
      rw [List.mem_range] at hi
      obtain ⟨h1, h2⟩ := (ih _ (hq i)).2 t ht
      have e : n ^ ((f, z) :: l).length = n * n ^ l.length := by rw [List.length_cons, Int.pow_succ, Int.mul_comm]
      rw [e, ← Int.mul_assoc, ← Int.mul_assoc]
      have h3 : (p * n) * n ^ l.length ≤ (p * n + (f + (i : Int))) * n ^ l.length := Int.mul_le_mul_of_nonneg_right (by omega) hm
      have h4 : (p * n + (f + (i : Int)) + 1) * n ^ l.length ≤ ((p + 1) * n) * n ^ l.length := Int.mul_le_mul_of_nonneg_right (by rw [Int.add_mul]; omega) hm
      omega
theorem colL_ok {at' : List Int} (hp : ∀ y ∈ at', 0 ≤ y) {l : List Int} (hs : ∀ s ∈ l, 0 ≤ s ∧ s < at'.length) : ∀ c ∈ colL at' l, 0 ≤ c.1 ∧ c.1 + c.2 ≤ at'.sum := by
  intro c hc
  unfold colL at hc
  obtain ⟨s, h1, rfl⟩ := List.mem_map.1 hc
  have h2 := hs s h1
  have h3 := take_le hp (k := s.toNat) (by omega)
  have h4 : 0 ≤ at'.getD s.toNat 0 := by rw [getD_at (by omega)]; exact hp _ (List.getElem_mem _)
  simp only
  omega
theorem full_inc {at' : List Int} (hp : ∀ y ∈ at', 0 ≤ y) {l : List Int} (hs : ∀ s ∈ l, 0 ≤ s ∧ s < at'.length) : Inc (fullR at' l).2 :=
  (rks_bound (sum_nn hp) _ (colL_ok hp hs) 0 (Int.le_refl _)).1
theorem fitsB_snoc {at' : List Int} : ∀ {l : List Int} {ts : List Int} {s t : Int}, l.length = ts.length → fitsB at' (l ++ [s]) (ts ++ [t]) = (decide (sortF at' t 0 = s) && fitsB at' l ts)
  | [], [], s, t, _ => by simp [fitsB]
  | a :: l, b :: ts, s, t, h => by
    show (_ && fitsB at' (l ++ [s]) (ts ++ [t])) = (_ && (_ && _))
    rw [fitsB_snoc (by simpa using h), ← Bool.and_assoc, ← Bool.and_assoc, Bool.and_comm (decide _) (decide _)]
theorem fits_cols (at' : List Int) (n : Int) : ∀ (m : Nat) (l : List Int), l.length = m → ∀ r, fitsB at' l (digL n m r) = colsF at' n l.reverse r
  | 0, l, h, r => by obtain rfl := List.eq_nil_of_length_eq_zero h; rfl
  | m + 1, l, h, r => by
    obtain ⟨l', s, rfl⟩ : ∃ l' s, l = l' ++ [s] := ⟨l.dropLast, l.getLast (by intro e; subst e; simp at h), (List.dropLast_concat_getLast _).symm⟩
    have hm' : l'.length = m := by simpa using h
    rw [List.reverse_append]
    show fitsB at' (l' ++ [s]) (digL n m (r / n) ++ [r % n]) = colsF at' n (s :: l'.reverse) r
    rw [fitsB_snoc (by rw [digL_len]; exact hm'), fits_cols at' n m l' hm' (r / n)]
    rfl
end Go.Ab
/- Chapter 05: sorts, ranks and tuples in plain terms. -/
namespace Go.Ab
open Go Go.Proofs
def srt (at' : List Int) (x : Int) : Int := if x < 0 then -1 else sortF at' x 0
theorem sortF_ex : ∀ {l : List Int} {x i : Int}, 0 ≤ x → x < l.sum → ∃ k, k < l.length ∧ sortF l x i = i + (k : Nat)
  | [], x, i, h0, h => by simp at h; omega
  | a :: l, x, i, h0, h => by
    rw [List.sum_cons] at h
    unfold sortF
    split
    · exact ⟨0, by simp, by simp⟩
    · obtain ⟨k, h1, h2⟩ := sortF_ex (l := l) (x := x - a) (i := i + 1) (by omega) (by omega)
      exact ⟨k + 1, by simp; omega, by rw [h2]; push_cast; omega⟩
theorem sortF_out : ∀ {l : List Int} {x i : Int}, (∀ y ∈ l, 0 ≤ y) → l.sum ≤ x → sortF l x i = -1
  | [], x, i, _, _ => rfl
  | a :: l, x, i, hp, h => by
    rw [List.sum_cons] at h
    have h2 := sum_nn (l := l) fun y hy => hp y (by simp [hy])
    unfold sortF
    rw [if_neg (by omega)]
    exact sortF_out (fun y hy => hp y (by simp [hy])) (by omega)
theorem srt_lo {at' : List Int} {x : Int} (h : x < 0) : srt at' x = -1 := by unfold srt; rw [if_pos h]
theorem srt_hi {at' : List Int} (hp : ∀ y ∈ at', 0 ≤ y) {x : Int} (h : at'.sum ≤ x) : srt at' x = -1 := by
  have := sum_nn hp
  unfold srt
  rw [if_neg (by omega)]
  exact sortF_out hp h
theorem srt_at {at' : List Int} (hp : ∀ y ∈ at', 0 ≤ y) {x : Int} (hx : 0 ≤ x) {k : Nat} (hk : k < at'.length) : srt at' x = k ↔ (at'.take k).sum ≤ x ∧ x < (at'.take (k + 1)).sum := by
  unfold srt
  rw [if_neg (by omega)]
  exact sortF_at hp hx hk
theorem srt_in {at' : List Int} (hp : ∀ y ∈ at', 0 ≤ y) {x : Int} (hx : 0 ≤ x) (h : x < at'.sum) : ∃ k, k < at'.length ∧ srt at' x = (k : Nat) ∧ (at'.take k).sum ≤ x ∧ x < (at'.take (k + 1)).sum := by
  obtain ⟨k, h1, h2⟩ := sortF_ex (l := at') (x := x) (i := 0) hx h
  rw [Int.zero_add] at h2
  have h3 : srt at' x = (k : Nat) := by unfold srt; rw [if_neg (by omega)]; exact h2
  exact ⟨k, h1, h3, (srt_at hp hx h1).1 h3⟩
def rankF (n : Int) : List Int → Int → Int
  | [], r => r
  | a :: l, r => if 0 ≤ a ∧ a ≤ n - 1 then rankF n l (r * n + a) else -1
theorem rankF_drop {n : Int} {l : List Int} {r : Int} {j : Nat} (hj : j < l.length) : rankF n (l.drop j) r = if 0 ≤ l[j] ∧ l[j] ≤ n - 1 then rankF n (l.drop (j + 1)) (r * n + l[j]) else -1 := by
  rw [List.drop_eq_getElem_cons hj]; rfl
def rnk (at' t : List Int) : Int := if t.length ≤ 3 then rankF at'.sum t 0 else -1
theorem rankF_snoc {n : Int} : ∀ {l : List Int} {r x : Int}, (∀ a ∈ l, 0 ≤ a ∧ a < n) → rankF n (l ++ [x]) r = if 0 ≤ x ∧ x ≤ n - 1 then rankF n l r * n + x else -1
  | [], r, x, _ => rfl
  | a :: l, r, x, h => by
    have ha := h a (by simp)
    have e : 0 ≤ a ∧ a ≤ n - 1 := ⟨ha.1, by omega⟩
    have e1 : rankF n (a :: l ++ [x]) r = rankF n (l ++ [x]) (r * n + a) := if_pos e
    have e2 : rankF n (a :: l) r = rankF n l (r * n + a) := if_pos e
    rw [e1, e2]
    exact rankF_snoc fun y hy => h y (by simp [hy])
theorem digL_in {n : Int} (hn : 1 ≤ n) : ∀ (k : Nat) {r : Int}, 0 ≤ r → ∀ t ∈ digL n k r, 0 ≤ t ∧ t < n
  | 0, _, _, t, h => by simp [digL] at h
  | k + 1, r, hr, t, h => by
    simp only [digL, List.mem_append, List.mem_singleton] at h
    rcases h with h | rfl
    · exact digL_in hn k (Int.ediv_nonneg hr (by omega)) t h
    · exact ⟨Int.emod_nonneg r (by omega), Int.emod_lt_of_pos r (by omega)⟩
theorem rank_dig {n : Int} (hn : 1 ≤ n) : ∀ (k : Nat) {r : Int}, 0 ≤ r → r < n ^ k → rankF n (digL n k r) 0 = r
  | 0, r, h0, h => by
    rw [Int.pow_zero] at h
    show (0 : Int) = r
    omega
  | k + 1, r, h0, h => by
    rw [Int.pow_succ] at h
    show rankF n (digL n k (r / n) ++ [r % n]) 0 = r
    have h1 := Int.emod_nonneg r (by omega : n ≠ 0)
    have h2 := Int.emod_lt_of_pos r (by omega : 0 < n)
    have h3 := Int.mul_ediv_add_emod r n
    rw [rankF_snoc (digL_in hn k (Int.ediv_nonneg h0 (by omega))), if_pos ⟨h1, by omega⟩, rank_dig hn k (Int.ediv_nonneg h0 (by omega)) (Int.ediv_lt_of_lt_mul (by omega) h), Int.mul_comm]
    exact h3
def tupF (n k r : Int) : List Int := if 0 ≤ k ∧ k ≤ 3 ∧ 0 ≤ r ∧ r < n ^ k.toNat then digL n k.toNat r else []
theorem tupF_pos {n r : Int} {k : Nat} (hk : k ≤ 3) (h0 : 0 ≤ r) (h : r < n ^ k) : tupF n k r = digL n k r := by
  unfold tupF
  rw [if_pos ⟨by omega, by omega, h0, by rw [Int.toNat_natCast]; exact h⟩, Int.toNat_natCast]
theorem tupF_neg {n r : Int} {k : Nat} (h : r < 0 ∨ n ^ k ≤ r) : tupF n k r = [] := by
  unfold tupF
  rw [if_neg]
  rintro ⟨h1, h2, h3, h4⟩
  rw [Int.toNat_natCast] at h4
  omega
theorem full_mem {at' : List Int} (hp : ∀ y ∈ at', 0 ≤ y) {l : List Int} (hs : ∀ s ∈ l, 0 ≤ s ∧ s < at'.length) {r : Int} (hr : r ∈ (fullR at' l).2) : 0 ≤ r ∧ r < at'.sum ^ l.length ∧ fitsB at' l (digL at'.sum l.length r) = true := by
  have h := (mem_full hp l hs r).1 hr
  exact ⟨h.1, h.2.2, by rw [fits_cols _ _ _ _ rfl]; exact h.2.1⟩
structure Ok5 (at' : List Int) : Prop where
  len : at'.length ≤ 4
  each : ∀ x ∈ at', 1 ≤ x ∧ x ≤ 5
  sum : at'.sum ≤ 12
theorem Ok5.sm {at' : List Int} (h : Ok5 at') : SmA at' := ⟨by have := h.len; omega, fun x hx => by have := h.each x hx; omega⟩
theorem Ok5.nn {at' : List Int} (h : Ok5 at') : ∀ x ∈ at', 0 ≤ x := fun x hx => by have := h.each x hx; omega
theorem Ok5.pos {at' : List Int} (h : Ok5 at') (hl : 0 < at'.length) : 1 ≤ at'.sum := by
  cases at' with
  | nil => simp at hl
  | cons a l =>
    have h1 := h.each a (by simp)
    have h2 := sum_nn (l := l) fun y hy => h.nn y (by simp [hy])
    rw [List.sum_cons]; omega
end Go.Ab
/- Chapter 05: the sort of an atom, the rank of a tuple: the program's and the reference's. -/
namespace Go.Ab
open Go Go.Proofs
open Nat (reduceAdd reduceSub)
set_option maxRecDepth 20000
set_option maxHeartbeats 4000000
attribute [local irreducible] AW AOps thenD inBlockD AR iterEnds roundEndsN inlEnds noGotoD
theorem uSortOf_fn (at' : List Int) (st x : Int) (h : SmA at') (hx : -9223372036854775808 ≤ x ∧ x ≤ 9223372036854775807) : Fn Tryd.prog 36 [scp at' st, litI x] (litI (srt at' x)) := by
  have hle := h.1
  unfold srt
  by_cases h0 : x < 0
  · rw [if_pos h0]
    refine Fn.enter (n := 25) Tryd.func36 rfl rfl rfl rfl rfl (by decide) fun g hro_ hwt_ => ?_; (try refine nz ?_)
    (refine j268 ?_; refine j238 ?_; refine zs ?_; refine j223 ?_)
    (apply ends_ret; (exact Res.one (.tmp rfl rfl)); (refine Le.litI ?_; (rfl)))
  · rw [if_neg h0]
    refine Fn.enter (n := 25) Tryd.func36 rfl rfl rfl rfl rfl (by decide) fun g hro_ hwt_ => ?_; (try refine nz ?_)
    (refine j268 ?_; refine j238 ?_; refine zs ?_; refine j77 ?_; refine j124 ?_; refine j49 ?_; refine j222 ?_)
    (refine nz ?_; apply AW.loopR [11, 10] [] (fun s : Nat × Int => ([(1, litI s.2), (12, litI s.1)] : List (Nat × AV))) (fun s : Nat × Int => ([] : List (Nat × Option Ob))) (fun s : Nat × Int => s.1 ≤ at'.length ∧ 0 ≤ s.2 ∧ s.2 ≤ 9223372036854775807 ∧ sortF at' x 0 = sortF (at'.drop s.1) s.2 s.1) (fun s : Nat × Int => at'.length - s.1) ((0, x)); (conv => lhs; simp only [Nf.lpR, Nf.all, Nat.reduceBEq, reduceAdd, reduceSub]); (all_goals skip))
    · exact ⟨Nat.zero_le _, by show 0 ≤ x; omega, hx.2, rfl⟩
    · exact j239
    rintro ⟨j, y⟩ ⟨hj, h1, h2, he⟩
    simp only at hj h1 h2 he ⊢
    by_cases hlt : j < at'.length
    · have hz := h.2 _ (List.getElem_mem hlt)
      rw [sortF_drop hlt] at he
      by_cases hc : y < at'[j]
      · rw [if_pos hc] at he
        (refine j279 ?_; (focus ((with_reducible apply AOps.index_map); (iterate 7 exact rfl); rotate_left; omega)); refine zr ?_; refine j161 ?_; refine j248 ?_; refine zs ?_; refine j246 ?_; refine j36 ?_; refine j35 ?_; refine thenD_ret ?_; refine j13 ?_)
        (apply ends_ret; (exact Res.one (.tmp rfl rfl)); (refine Le.litI ?_; (exact he.symm)))
      · rw [if_neg hc] at he
        (refine j279 ?_; (focus ((with_reducible apply AOps.index_map); (iterate 7 exact rfl); rotate_left; omega)); refine zr ?_; refine j161 ?_; refine j248 ?_; refine zs ?_; refine j77 ?_; refine j300 ?_; refine AOps.sub rfl rfl rfl rfl rfl (by omega) ?_; refine j252 ?_; refine j64 ?_)
        exact ⟨(j + 1, y - at'[j]), ⟨by show j + 1 ≤ _; omega, by show 0 ≤ y - _; omega, by show y - _ ≤ _; omega, he⟩, by show at'.length - (j + 1) < at'.length - j; omega, weak rfl (by (refine ⟨.eq rfl rfl, ?_⟩; (iterate 3 refine ⟨.eq rfl rfl, ?_⟩); exact trivial)) (by (exact trivial)) rfl⟩
    · rw [List.drop_eq_nil_of_le (by omega)] at he
      (refine j264 ?_; refine j35 ?_)
      (apply ends_ret; (exact Res.one (.tmp rfl rfl)); (refine Le.litI ?_; (exact he.symm)))
theorem rank_step {n r a : Int} {j : Nat} (hn : 0 ≤ n ∧ n ≤ 1000) (hj : j < 3) (h0 : 0 ≤ r) (h1 : r < n ^ j) (h2 : 0 ≤ a) (h3 : a < n) : 0 ≤ r * n ∧ r * n + a < n ^ (j + 1) ∧ r * n + a ≤ 1000000000 := by
  have hb := (pow_bound hn (j + 1) (by omega)).2
  have m1 : 0 ≤ r * n := Int.mul_nonneg h0 hn.1
  have m2 : (r + 1) * n ≤ n ^ j * n := Int.mul_le_mul_of_nonneg_right (by omega) hn.1
  rw [Int.add_mul, Int.one_mul] at m2
  rw [Int.pow_succ] at hb ⊢
  exact ⟨m1, by omega, by omega⟩
theorem uRank_fn (at' : List Int) (st : Int) (t : List Int) (h : SmA at') (hs : at'.sum ≤ 1000) : Fn Tryd.prog 68 [scp at' st, .pv (ints t)] (litI (rnk at' t)) := by
  have ha := atoms_fn at' st h
  have hb := h.take at'.length
  rw [List.take_length] at hb
  unfold rnk
  generalize at'.sum = n at *
  by_cases hl : t.length ≤ 3
  · rw [if_pos hl]
    refine Fn.enter (n := 32) Tryd.func68 rfl rfl rfl rfl rfl (by decide) fun g hro_ hwt_ => ?_; (try refine nz ?_)
    (refine j268 ?_; refine j238 ?_; refine j134 ?_; refine j237 ?_; refine j33 ?_; refine zA (ha) ?_; refine j161 ?_; refine j80 ?_; refine j222 ?_)
    (refine nz ?_; apply AW.loopR [15, 14, 5] [] (fun s : Nat × Int => ([(6, litI s.2), (16, litI s.1)] : List (Nat × AV))) (fun s : Nat × Int => ([] : List (Nat × Option Ob))) (fun s : Nat × Int => s.1 ≤ t.length ∧ 0 ≤ s.2 ∧ s.2 < n ^ s.1 ∧ rankF n t 0 = rankF n (t.drop s.1) s.2) (fun s : Nat × Int => t.length - s.1) ((0, 0)); (conv => lhs; simp only [Nf.lpR, Nf.all, Nat.reduceBEq, reduceAdd, reduceSub]); (all_goals skip))
    · exact ⟨Nat.zero_le _, Int.le_refl _, by show (0 : Int) < n ^ 0; rw [Int.pow_zero]; omega, rfl⟩
    · exact weak rfl (by (refine ⟨.eq rfl rfl, ?_⟩; (iterate 4 refine ⟨.eq rfl rfl, ?_⟩); exact trivial)) (by (exact trivial)) rfl
    rintro ⟨j, r⟩ ⟨hj, h1, h2, he⟩
    simp only at hj h1 h2 he ⊢
    by_cases hlt : j < t.length
    · rw [rankF_drop hlt] at he
      have hw := within_fn t[j] 0 (n - 1)
      by_cases hc : 0 ≤ t[j] ∧ t[j] ≤ n - 1
      · rw [if_pos hc] at he
        rw [decide_eq_true hc] at hw
        obtain ⟨b1, b2, b3⟩ := rank_step ⟨hb.1, hs⟩ (by omega : j < 3) h1 h2 hc.1 (by omega)
        (refine j1 ?_; (focus ((with_reducible apply AOps.index_map); (iterate 7 exact rfl); rotate_left; omega)); refine zr ?_; refine j7 ?_; refine j248 ?_; refine AOps.sub rfl rfl rfl rfl rfl (by omega) ?_; refine zA (hw) ?_; refine j85 ?_; refine j29 ?_; refine j300 ?_; refine AOps.mul rfl rfl rfl rfl rfl (by omega) ?_; refine zm ?_; refine zj ?_; refine j252 ?_; refine j64 ?_)
        exact ⟨(j + 1, r * n + t[j]), ⟨by show j + 1 ≤ _; omega, by show 0 ≤ r * n + _; omega, b2, he⟩, by show t.length - (j + 1) < t.length - j; omega, weak rfl (by (refine ⟨.eq rfl rfl, ?_⟩; (iterate 4 refine ⟨.eq rfl rfl, ?_⟩); exact trivial)) (by (exact trivial)) rfl⟩
      · rw [if_neg hc] at he
        rw [decide_eq_false hc] at hw
        (refine j1 ?_; (focus ((with_reducible apply AOps.index_map); (iterate 7 exact rfl); rotate_left; omega)); refine zr ?_; refine j7 ?_; refine j248 ?_; refine AOps.sub rfl rfl rfl rfl rfl (by omega) ?_; refine zA (hw) ?_; refine AOps.not rfl rfl rfl ?_; refine j14 ?_; refine thenD_ret ?_; refine j13 ?_)
        (apply ends_ret; (exact Res.one (.tmp rfl rfl)); (refine Le.litI ?_; (exact he.symm)))
    · rw [List.drop_eq_nil_of_le (by omega)] at he
      (refine j31 ?_; refine j36 ?_; refine j35 ?_)
      (apply ends_ret; (exact Res.one (.tmp rfl rfl)); (refine Le.litI ?_; (exact he.symm)))
  · rw [if_neg hl]
    refine Fn.enter (n := 32) Tryd.func68 rfl rfl rfl rfl rfl (by decide) fun g hro_ hwt_ => ?_; (try refine nz ?_)
    (refine j268 ?_; refine j238 ?_; refine j134 ?_; refine j223 ?_)
    (apply ends_ret; (exact Res.one (.tmp rfl rfl)); (refine Le.litI ?_; (rfl)))
end Go.Ab
/- Chapter 05: the tuple of a rank, whatever arity and rank: the program's and the reference's. -/
namespace Go.Ab
open Go Go.Proofs
open Nat (reduceAdd reduceSub)
set_option maxRecDepth 20000
set_option maxHeartbeats 4000000
theorem set_zeros1 {j : Nat} {D : List Int} {x : Int} : (List.replicate (j + 1) 0 ++ D).set j x = List.replicate j 0 ++ (x :: D) := by
  have := set_zeros (j := j) (D := D) (E := []) (x := x)
  simpa using this
def quoN (n : Int) : Nat → Int → Int
  | 0, r => r
  | k + 1, r => quoN n k (r / n)
theorem quoN_pos {n : Int} (hn : 1 ≤ n) : ∀ (k : Nat) {r : Int}, 0 ≤ r → (0 < quoN n k r ↔ n ^ k ≤ r)
  | 0, r, h => by show 0 < r ↔ n ^ 0 ≤ r; rw [Int.pow_zero]; omega
  | k + 1, r, h => by
    show 0 < quoN n k (r / n) ↔ _
    rw [quoN_pos hn k (Int.ediv_nonneg h (by omega)), Int.pow_succ]
    exact Int.le_ediv_iff_mul_le (by omega)
attribute [local irreducible] AW AOps thenD inBlockD AR iterEnds roundEndsN inlEnds noGotoD
theorem uTuple_fn (at' : List Int) (st k r : Int) (h : SmA at') (hs : at'.sum ≤ 1000) (hr : r ≤ 9223372036854775807) : Fn Tryd.prog 20 [scp at' st, litI k, litI r] (.pv (ints (tupF at'.sum k r))) := by
  have ha := atoms_fn at' st h
  have hb := h.take at'.length
  rw [List.take_length] at hb
  have hw := within_fn k 0 3
  generalize at'.sum = n at *
  by_cases hk : 0 ≤ k ∧ k ≤ 3
  · rw [decide_eq_true hk] at hw
    obtain ⟨k, rfl⟩ : ∃ m : Nat, k = m := ⟨k.toNat, by omega⟩
    by_cases h0 : r < 0
    · rw [tupF_neg (.inl h0)]
      refine Fn.enter (n := 41) Tryd.func20 rfl rfl rfl rfl rfl (by decide) fun g hro_ hwt_ => ?_; (try refine nz ?_)
      (refine j127 ?_; refine j223 ?_)
      all_goals (apply ends_ret; (exact Res.one (.tmp rfl rfl)); (exact Le.nil _))
    by_cases hn : n = 0
    · subst hn
      cases k with
      | zero =>
        by_cases h1 : r = 0
        · subst h1
          rw [tupF_pos (by omega) (by omega) (by decide)]
          refine Fn.enter (n := 41) Tryd.func20 rfl rfl rfl rfl rfl (by decide) fun g hro_ hwt_ => ?_; (try refine nz ?_)
          (refine j127 ?_; refine j56 ?_; refine j29 ?_; refine j2 ?_; refine j33 ?_; refine zA (ha) ?_; refine j156 ?_; refine AOps.makeSlice0 rfl rfl rfl rfl rfl rfl rfl rfl (by omega) ?_; refine j197 ?_)
          (refine nz ?_; apply AW.loopR [7] [1] (fun i : Nat => ([(2, litI 0), (8, .own 1 3 1 []), (9, litI (-1))] : List (Nat × AV))) (fun i : Nat => ([] : List (Nat × Option Ob))) (fun i : Nat => True) (fun i : Nat => 0) (0); (conv => lhs; simp only [Nf.lpR, Nf.all, Nat.reduceBEq, reduceAdd, reduceSub]); (all_goals skip))
          · trivial
          · exact j181
          rintro i _
          (refine j162 ?_; refine j56 ?_; refine j29 ?_; refine j190 ?_)
          (apply ends_ret; (exact Res.one (.tmp rfl rfl)); (exact Le.own _ _ _ _ rfl))
        · rw [tupF_neg (.inr (by rw [Int.pow_zero]; omega))]
          refine Fn.enter (n := 41) Tryd.func20 rfl rfl rfl rfl rfl (by decide) fun g hro_ hwt_ => ?_; (try refine nz ?_)
          (refine j127 ?_; refine j237 ?_; refine j33 ?_; refine zA (ha) ?_; refine j156 ?_; refine AOps.makeSlice0 rfl rfl rfl rfl rfl rfl rfl rfl (by omega) ?_; refine j197 ?_)
          (refine nz ?_; apply AW.loopR [7] [1] (fun i : Nat => ([(2, litI r), (8, .own 1 3 1 []), (9, litI (-1))] : List (Nat × AV))) (fun i : Nat => ([] : List (Nat × Option Ob))) (fun i : Nat => True) (fun i : Nat => 0) (0); (conv => lhs; simp only [Nf.lpR, Nf.all, Nat.reduceBEq, reduceAdd, reduceSub]); (all_goals skip))
          · trivial
          · exact j181
          rintro i _
          (refine j162 ?_; refine j223 ?_)
          (apply ends_ret; (exact Res.one (.tmp rfl rfl)); (exact Le.nil _))
      | succ k =>
        rw [tupF_neg (.inr (by rw [Int.pow_succ, Int.mul_zero]; omega))]
        refine Fn.enter (n := 41) Tryd.func20 rfl rfl rfl rfl rfl (by decide) fun g hro_ hwt_ => ?_; (try refine nz ?_)
        (refine j317 ?_)
        (refine nz ?_; apply AW.loopR [7] [] (fun i : Nat => ([(2, litI r), (8, .any), (9, litI (k : Int))] : List (Nat × AV))) (fun i : Nat => ([] : List (Nat × Option Ob))) (fun i : Nat => True) (fun i : Nat => 0) (0); (conv => lhs; simp only [Nf.lpR, Nf.all, Nat.reduceBEq, reduceAdd, reduceSub]); (all_goals skip))
        · trivial
        · exact weak rfl (by (refine ⟨.intE (by first | with_reducible rfl | (first | rfl | omega)), ?_⟩; refine ⟨.any _, ?_⟩; (iterate 2 refine ⟨.intE (by first | with_reducible rfl | (first | rfl | omega)), ?_⟩); exact trivial)) (by (exact trivial)) rfl
        rintro i _
        (refine j245 ?_; refine j80 ?_; refine AOps.eql rfl rfl rfl rfl rfl ?_; refine j14 ?_; refine thenD_ret ?_; refine j13 ?_)
        (apply ends_ret; (exact Res.one (.tmp rfl rfl)); (exact Le.nil _))
    have hq := quoN_pos (by omega : 1 ≤ n) k (r := r) (by omega)
    refine Fn.enter (n := 41) Tryd.func20 rfl rfl rfl rfl rfl (by decide) fun g hro_ hwt_ => ?_; (try refine nz ?_)
    (refine j317 ?_)
    (refine nz ?_; apply AW.loopR [7] [1] (fun s : Nat × Int × List Int => ([(2, litI s.2.1), (8, .own 1 3 1 ((List.replicate s.1 0 ++ s.2.2).map encI)), (9, litI ((s.1 : Int) - 1))] : List (Nat × AV))) (fun s : Nat × Int × List Int => ([] : List (Nat × Option Ob))) (fun s : Nat × Int × List Int => s.1 ≤ k ∧ s.2.2.length = k - s.1 ∧ 0 ≤ s.2.1 ∧ s.2.1 ≤ 9223372036854775807 ∧ digL n k r = digL n s.1 s.2.1 ++ s.2.2 ∧ quoN n k r = quoN n s.1 s.2.1) (fun s : Nat × Int × List Int => s.1) ((k, r, [])); (conv => lhs; simp only [Nf.lpR, Nf.all, Nat.reduceBEq, reduceAdd, reduceSub]); (all_goals skip))
    · exact ⟨Nat.le_refl _, by simp, by show 0 ≤ r; omega, hr, by simp, rfl⟩
    · exact weak rfl (by (refine ⟨.intE (by first | with_reducible rfl | (first | rfl | (show List.replicate _ _ = List.map encI _; rw [List.append_nil, List.map_replicate, Int.toNat_natCast]; rfl))), ?_⟩; refine ⟨.ownE (by first | with_reducible rfl | (first | rfl | (show List.replicate _ _ = List.map encI _; rw [List.append_nil, List.map_replicate, Int.toNat_natCast]; rfl))) rfl, ?_⟩; refine ⟨.intE (by first | with_reducible rfl | (first | rfl | (show List.replicate _ _ = List.map encI _; rw [List.append_nil, List.map_replicate, Int.toNat_natCast]; rfl))), ?_⟩; refine ⟨.intE (by first | with_reducible rfl | (first | rfl | (show List.replicate _ _ = List.map encI _; rw [List.append_nil, List.map_replicate, Int.toNat_natCast]; rfl))), ?_⟩; exact trivial)) (by (refine ⟨.row rfl, ?_⟩; exact trivial)) rfl
    rintro ⟨j, r', D⟩ ⟨h1, h2, h3, h4, h5, h6⟩
    simp only at h1 h2 h3 h4 h5 h6 ⊢
    cases j with
    | zero =>
      have e1 : digL n k r = D := h5
      have e2 : quoN n k r = r' := h6
      by_cases hz : 0 < r'
      · rw [tupF_neg (.inr (hq.1 (by omega)))]
        (refine j162 ?_; refine j223 ?_)
        (apply ends_ret; (exact Res.one (.tmp rfl rfl)); (exact Le.nil _))
      · rw [tupF_pos (by omega) (by omega) (by have := hq.2; omega), e1]
        (refine j162 ?_; refine j77 ?_; refine j190 ?_)
        (apply ends_ret; (exact Res.one (.tmp rfl rfl)); (exact Le.own _ _ _ _ rfl))
    | succ j =>
      have ek : ((j + 1 : Nat) : Int) - 1 = (j : Int) := by omega
      rw [ek]
      have hd1 := Int.ediv_nonneg h3 (by omega : 0 ≤ n)
      have hd2 := Int.ediv_le_self n h3
      have hlen : (List.replicate (j + 1) (0 : Int) ++ D).length = k := by simp; omega
      have hsz := set_zeros1 (j := j) (D := D) (x := r' % n)
      (refine j245 ?_; refine j80 ?_; refine AOps.eql rfl rfl rfl rfl rfl ?_; refine j237 ?_; refine AOps.move_own rfl rfl rfl ?_; (iterate 3 refine zm ?_); refine AOps.remE rfl rfl rfl rfl rfl (by omega) ?_; refine AOps.index_own_mapN rfl rfl rfl rfl rfl rfl rfl (by omega) ?_; refine AOps.store_o1 rfl rfl rfl rfl rfl rfl rfl rfl ?_; refine zd ?_; refine j333 ?_)
      exact ⟨(j, r' / n, r' % n :: D), ⟨by show j ≤ k; omega, by show (r' % n :: D).length = k - j; rw [List.length_cons]; omega, hd1, by show r' / n ≤ _; omega, by show _ = digL n j (r' / n) ++ (r' % n :: D); rw [h5]; show (digL n j (r' / n) ++ [r' % n]) ++ D = _; simp, h6⟩, by show j < j + 1; omega, weak rfl (by (refine ⟨.intE (by first | with_reducible rfl | (first | rfl | (rw [← hsz, List.map_set]; rfl))), ?_⟩; refine ⟨.ownE (by first | with_reducible rfl | (first | rfl | (rw [← hsz, List.map_set]; rfl))) rfl, ?_⟩; refine ⟨.intE (by first | with_reducible rfl | (first | rfl | (rw [← hsz, List.map_set]; rfl))), ?_⟩; refine ⟨.intE (by first | with_reducible rfl | (first | rfl | (rw [← hsz, List.map_set]; rfl))), ?_⟩; exact trivial)) (by (refine ⟨.row rfl, ?_⟩; exact trivial)) rfl⟩
  · rw [decide_eq_false hk] at hw
    have e : tupF n k r = [] := by unfold tupF; rw [if_neg (fun h => hk ⟨h.1, h.2.1⟩)]
    rw [e]
    refine Fn.enter (n := 41) Tryd.func20 rfl rfl rfl rfl rfl (by decide) fun g hro_ hwt_ => ?_; (try refine nz ?_)
    (refine j268 ?_; refine j238 ?_; refine zA (hw) ?_; refine j149 ?_; (iterate 2 refine AOps.guard_lf rfl rfl rfl rfl rfl rfl rfl ?_); refine j47 ?_)
    all_goals (apply ends_ret; (exact Res.one (.tmp rfl rfl)); (exact Le.nil _))
end Go.Ab
/- Chapter 05: all tuples over columns, whatever the columns; relations and tuples compared; scopes that fit. -/
namespace Go.Ab
open Go Go.Proofs
open Nat (reduceAdd reduceSub)
set_option maxRecDepth 20000
set_option maxHeartbeats 4000000
theorem insB_all {k : Nat} {l : List Int} : insB k l = true ↔ ∀ x ∈ l, 0 ≤ x ∧ x < k := by
  unfold insB; rw [List.all_eq_true]; simp
attribute [local irreducible] AW AOps thenD inBlockD AR iterEnds roundEndsN inlEnds noGotoD
end Go.Ab
/-
  DERIVED: THE SHELF's CONTRACTS AT THIS DUMP, IN PLAIN WORDS (tools/lay-plain.mjs out of 'TrydShelf.lean', which tools/lay-shelf.mjs wrote): THE SAME DECLARATIONS UNDER THE SAME NAMES: 'import', 'namespace', 'open', 'def', 'theorem' AND NOTHING ELSE: no command of the shelf's: FOR A HAND-IN. Each laying: the table of numbers ('.._ren') and one theorem, a field a fact of the dump's own or the kernel's comparison; each contract: ONE APPLICATION.
-/
namespace Go.Proofs
open Go.Shelf
def Tryd.lays169_ren : Go.Shelf.Ren := ⟨fun | 169 => 23 | n => n, fun | 70 => 57 | 9 => 9 | 0 => 0 | 72 => 60 | 37 => 58 | 127 => 90 | 3 => 3 | 5 => 5 | n => n, fun | n => n⟩
theorem Tryd.lays169 : Go.Proofs.Lays.n169 Tryd.prog Tryd.lays169_ren := {
  mixed := by kernel_rfl
  f169 := Tryd.func23.trans (congrArg some (by kernel_rfl))
  t0 := Tryd.underlying0
  a0 := Tryd.isAgg0
  z0 := Tryd.sizeOf0
  v0 := Tryd.zeroValue0
  t3 := Tryd.underlying3
  a3 := Tryd.isAgg3
  z3 := Tryd.sizeOf3
  v3 := Tryd.zeroValue3
  t9 := Tryd.underlying9
  a9 := Tryd.isAgg9
  z9 := Tryd.sizeOf9
  v9 := Tryd.zeroValue9
  t37 := Tryd.underlying58
  a37 := Tryd.isAgg58
  z37 := Tryd.sizeOf58
  v37 := Tryd.zeroValue58
  t70 := Tryd.underlying57
  a70 := Tryd.isAgg57
  z70 := Tryd.sizeOf57
  v70 := Tryd.zeroValue57
  t72 := Tryd.underlying60
  a72 := Tryd.isAgg60
  z72 := Tryd.sizeOf60
  v72 := Tryd.zeroValue60
  t127 := Tryd.underlying90
  a127 := Tryd.isAgg90
  z127 := Tryd.sizeOf90
  v127 := Tryd.zeroValue90 }
theorem Tryd.Builder_Extra_169 : Builder.Extra Tryd.prog Tryd.lays169_ren := {
  sizeBuilder := by kernel_rfl
  liesBuilder := by kernel_rfl
  t5 := Tryd.underlying5
  a5 := Tryd.isAgg5
  z5 := Tryd.sizeOf5
  v5 := Tryd.zeroValue5
  infoByte := by kernel_rfl
  cellsByte := by kernel_rfl
  sizeByte := by kernel_rfl
  neB5 := by decide }
def Tryd.lays156_ren : Go.Shelf.Ren := ⟨fun | 156 => 22 | 165 => 38 | 166 => 32 | 169 => 23 | 240 => 49 | 241 => 52 | 276 => 62 | 277 => 64 | n => n, fun | 31 => 64 | 9 => 9 | 3 => 3 | 4 => 4 | 0 => 0 | 20 => 20 | 72 => 60 | 76 => 85 | 70 => 57 | 37 => 58 | 75 => 70 | 127 => 90 | 164 => 103 | 5 => 5 | 80 => 68 | n => n, fun | n => n⟩
theorem Tryd.lays156 : Go.Proofs.Lays.n156 Tryd.prog Tryd.lays156_ren := {
  mixed := by kernel_rfl
  f156 := Tryd.func22.trans (congrArg some (by kernel_rfl))
  f165 := Tryd.func38.trans (congrArg some (by kernel_rfl))
  f166 := Tryd.func32.trans (congrArg some (by kernel_rfl))
  f169 := Tryd.func23.trans (congrArg some (by kernel_rfl))
  f240 := Tryd.func49.trans (congrArg some (by kernel_rfl))
  f241 := Tryd.func52.trans (congrArg some (by kernel_rfl))
  f276 := Tryd.func62.trans (congrArg some (by kernel_rfl))
  f277 := Tryd.func64.trans (congrArg some (by kernel_rfl))
  t0 := Tryd.underlying0
  a0 := Tryd.isAgg0
  z0 := Tryd.sizeOf0
  v0 := Tryd.zeroValue0
  t3 := Tryd.underlying3
  a3 := Tryd.isAgg3
  z3 := Tryd.sizeOf3
  v3 := Tryd.zeroValue3
  t4 := Tryd.underlying4
  a4 := Tryd.isAgg4
  z4 := Tryd.sizeOf4
  v4 := Tryd.zeroValue4
  t9 := Tryd.underlying9
  a9 := Tryd.isAgg9
  z9 := Tryd.sizeOf9
  v9 := Tryd.zeroValue9
  t20 := Tryd.underlying20
  a20 := Tryd.isAgg20
  z20 := Tryd.sizeOf20
  v20 := Tryd.zeroValue20
  t31 := Tryd.underlying64
  a31 := Tryd.isAgg64
  z31 := Tryd.sizeOf64
  v31 := Tryd.zeroValue64
  t37 := Tryd.underlying58
  a37 := Tryd.isAgg58
  z37 := Tryd.sizeOf58
  v37 := Tryd.zeroValue58
  t70 := Tryd.underlying57
  a70 := Tryd.isAgg57
  z70 := Tryd.sizeOf57
  v70 := Tryd.zeroValue57
  t72 := Tryd.underlying60
  a72 := Tryd.isAgg60
  z72 := Tryd.sizeOf60
  v72 := Tryd.zeroValue60
  t75 := Tryd.underlying70
  a75 := Tryd.isAgg70
  z75 := Tryd.sizeOf70
  v75 := Tryd.zeroValue70
  t76 := Tryd.underlying85
  a76 := Tryd.isAgg85
  z76 := Tryd.sizeOf85
  v76 := Tryd.zeroValue85
  t127 := Tryd.underlying90
  a127 := Tryd.isAgg90
  z127 := Tryd.sizeOf90
  v127 := Tryd.zeroValue90
  t164 := Tryd.underlying103
  a164 := Tryd.isAgg103
  z164 := Tryd.sizeOf103
  v164 := Tryd.zeroValue103 }
theorem Tryd.Builder_Extra_156 : Builder.Extra Tryd.prog Tryd.lays156_ren := {
  sizeBuilder := by kernel_rfl
  liesBuilder := by kernel_rfl
  t5 := Tryd.underlying5
  a5 := Tryd.isAgg5
  z5 := Tryd.sizeOf5
  v5 := Tryd.zeroValue5
  infoByte := by kernel_rfl
  cellsByte := by kernel_rfl
  sizeByte := by kernel_rfl
  neB5 := by decide }
open Go.RowKit in
theorem Tryd.strings_Join_none (a : Option Addr) (c : Nat) (sep : ByteArray) (w : World) :
    Calls Tryd.prog 22 #[.slice a 0 c, .string sep] w fun e w' => e = .returned (.string ⟨#[]⟩) ∧ w' = w := Any.strings_Join_none Tryd.lays156 Tryd.Builder_Extra_156 a c sep w
open Go.RowKit in
theorem Tryd.strings_Join (bk o c : Nat) (xs : List ByteArray) (sep : ByteArray) (w : World) (hcells : ∀ (j : Nat) x, xs[j]? = some x → w.cell? ⟨bk, o + j, none⟩ = some (.string x)) (hbk : bk < w.heap.size) (hN : xs.length ≤ 140737488355328) (hcap : xs.length ≤ c) (hlen : (Lib.join (xs.map (·.data.toList)) sep.data.toList).length ≤ 140737488355328) :
    Calls Tryd.prog 22 #[.slice (some ⟨bk, o, none⟩) xs.length c, .string sep] w fun e w' => e = .returned (.string ⟨(Lib.join (xs.map (·.data.toList)) sep.data.toList).toArray⟩) ∧ Below w.heap.size w w' := Any.strings_Join Tryd.lays156 Tryd.Builder_Extra_156 bk o c xs sep w hcells hbk hN hcap hlen
def Tryd.lays172_ren : Go.Shelf.Ren := ⟨fun | 172 => 54 | 244 => 66 | 245 => 67 | 247 => 80 | 279 => 81 | 280 => 82 | 281 => 83 | 282 => 84 | 287 => 91 | 316 => 92 | 171 => 33 | 205 => 93 | 321 => 96 | 322 => 97 | 243 => 50 | 246 => 63 | 283 => 75 | 284 => 76 | 285 => 77 | 286 => 78 | 129 => 86 | 317 => 85 | 318 => 87 | 319 => 88 | 320 => 89 | 337 => 94 | 338 => 95 | n => n, fun | 9 => 9 | 3 => 3 | 75 => 70 | 76 => 85 | 4 => 4 | 5 => 5 | 167 => 122 | 37 => 58 | 0 => 0 | 85 => 123 | 2 => 2 | 168 => 125 | 53 => 117 | 175 => 135 | 46 => 132 | 210 => 139 | 127 => 90 | 145 => 145 | 143 => 143 | 21 => 21 | 171 => 116 | 173 => 120 | 212 => 129 | 51 => 130 | 20 => 20 | 213 => 131 | 232 => 146 | 233 => 147 | 80 => 68 | n => n, fun | 15 => 2 | 16 => 3 | 17 => 1 | 18 => 4 | 19 => 5 | n => n⟩
theorem Tryd.lays172 : Go.Proofs.Lays.n172 Tryd.prog Tryd.lays172_ren := {
  mixed := by kernel_rfl
  f129 := Tryd.func86.trans (congrArg some (by kernel_rfl))
  f171 := Tryd.func33.trans (congrArg some (by kernel_rfl))
  f172 := Tryd.func54.trans (congrArg some (by kernel_rfl))
  f205 := Tryd.func93.trans (congrArg some (by kernel_rfl))
  f243 := Tryd.func50.trans (congrArg some (by kernel_rfl))
  f244 := Tryd.func66.trans (congrArg some (by kernel_rfl))
  f245 := Tryd.func67.trans (congrArg some (by kernel_rfl))
  f246 := Tryd.func63.trans (congrArg some (by kernel_rfl))
  f247 := Tryd.func80.trans (congrArg some (by kernel_rfl))
  f279 := Tryd.func81.trans (congrArg some (by kernel_rfl))
  f280 := Tryd.func82.trans (congrArg some (by kernel_rfl))
  f281 := Tryd.func83.trans (congrArg some (by kernel_rfl))
  f282 := Tryd.func84.trans (congrArg some (by kernel_rfl))
  f283 := Tryd.func75.trans (congrArg some (by kernel_rfl))
  f284 := Tryd.func76.trans (congrArg some (by kernel_rfl))
  f285 := Tryd.func77.trans (congrArg some (by kernel_rfl))
  f286 := Tryd.func78.trans (congrArg some (by kernel_rfl))
  f287 := Tryd.func91.trans (congrArg some (by kernel_rfl))
  f316 := Tryd.func92.trans (congrArg some (by kernel_rfl))
  f317 := Tryd.func85.trans (congrArg some (by kernel_rfl))
  f318 := Tryd.func87.trans (congrArg some (by kernel_rfl))
  f319 := Tryd.func88.trans (congrArg some (by kernel_rfl))
  f320 := Tryd.func89.trans (congrArg some (by kernel_rfl))
  f321 := Tryd.func96.trans (congrArg some (by kernel_rfl))
  f322 := Tryd.func97.trans (congrArg some (by kernel_rfl))
  f337 := Tryd.func94.trans (congrArg some (by kernel_rfl))
  f338 := Tryd.func95.trans (congrArg some (by kernel_rfl))
  t0 := Tryd.underlying0
  a0 := Tryd.isAgg0
  z0 := Tryd.sizeOf0
  v0 := Tryd.zeroValue0
  t2 := Tryd.underlying2
  a2 := Tryd.isAgg2
  z2 := Tryd.sizeOf2
  v2 := Tryd.zeroValue2
  t3 := Tryd.underlying3
  a3 := Tryd.isAgg3
  z3 := Tryd.sizeOf3
  v3 := Tryd.zeroValue3
  t4 := Tryd.underlying4
  a4 := Tryd.isAgg4
  z4 := Tryd.sizeOf4
  v4 := Tryd.zeroValue4
  t5 := Tryd.underlying5
  a5 := Tryd.isAgg5
  z5 := Tryd.sizeOf5
  v5 := Tryd.zeroValue5
  t9 := Tryd.underlying9
  a9 := Tryd.isAgg9
  z9 := Tryd.sizeOf9
  v9 := Tryd.zeroValue9
  t20 := Tryd.underlying20
  a20 := Tryd.isAgg20
  z20 := Tryd.sizeOf20
  v20 := Tryd.zeroValue20
  t21 := Tryd.underlying21
  a21 := Tryd.isAgg21
  z21 := Tryd.sizeOf21
  v21 := Tryd.zeroValue21
  t37 := Tryd.underlying58
  a37 := Tryd.isAgg58
  z37 := Tryd.sizeOf58
  v37 := Tryd.zeroValue58
  t46 := Tryd.underlying132
  a46 := Tryd.isAgg132
  z46 := Tryd.sizeOf132
  v46 := Tryd.zeroValue132
  t51 := Tryd.underlying130
  a51 := Tryd.isAgg130
  z51 := Tryd.sizeOf130
  v51 := Tryd.zeroValue130
  t53 := Tryd.underlying117
  a53 := Tryd.isAgg117
  z53 := Tryd.sizeOf117
  v53 := Tryd.zeroValue117
  t75 := Tryd.underlying70
  a75 := Tryd.isAgg70
  z75 := Tryd.sizeOf70
  v75 := Tryd.zeroValue70
  t76 := Tryd.underlying85
  a76 := Tryd.isAgg85
  z76 := Tryd.sizeOf85
  v76 := Tryd.zeroValue85
  t85 := Tryd.underlying123
  a85 := Tryd.isAgg123
  z85 := Tryd.sizeOf123
  v85 := Tryd.zeroValue123
  t127 := Tryd.underlying90
  a127 := Tryd.isAgg90
  z127 := Tryd.sizeOf90
  v127 := Tryd.zeroValue90
  t143 := Tryd.underlying143
  a143 := Tryd.isAgg143
  z143 := Tryd.sizeOf143
  v143 := Tryd.zeroValue143
  t145 := Tryd.underlying145
  a145 := Tryd.isAgg145
  z145 := Tryd.sizeOf145
  v145 := Tryd.zeroValue145
  t167 := Tryd.underlying122
  a167 := Tryd.isAgg122
  z167 := Tryd.sizeOf122
  v167 := Tryd.zeroValue122
  t168 := Tryd.underlying125
  a168 := Tryd.isAgg125
  z168 := Tryd.sizeOf125
  v168 := Tryd.zeroValue125
  t171 := Tryd.underlying116
  a171 := Tryd.isAgg116
  z171 := Tryd.sizeOf116
  v171 := Tryd.zeroValue116
  t173 := Tryd.underlying120
  a173 := Tryd.isAgg120
  z173 := Tryd.sizeOf120
  v173 := Tryd.zeroValue120
  t175 := Tryd.underlying135
  a175 := Tryd.isAgg135
  z175 := Tryd.sizeOf135
  v175 := Tryd.zeroValue135
  t210 := Tryd.underlying139
  a210 := Tryd.isAgg139
  z210 := Tryd.sizeOf139
  v210 := Tryd.zeroValue139
  t212 := Tryd.underlying129
  a212 := Tryd.isAgg129
  z212 := Tryd.sizeOf129
  v212 := Tryd.zeroValue129
  t213 := Tryd.underlying131
  a213 := Tryd.isAgg131
  z213 := Tryd.sizeOf131
  t232 := Tryd.underlying146
  a232 := Tryd.isAgg146
  z232 := Tryd.sizeOf146
  v232 := Tryd.zeroValue146
  t233 := Tryd.underlying147
  a233 := Tryd.isAgg147
  z233 := Tryd.sizeOf147
  v233 := Tryd.zeroValue147
  g15 := by kernel_rfl
  g16 := by kernel_rfl
  g17 := by kernel_rfl
  g18 := by kernel_rfl
  g19 := by kernel_rfl }
open Go.RowKit in
theorem Tryd.strconv_Atoi (s : ByteArray) (n : Int) (hl : s.size ≤ 18) (h : Lib.atoi s.data.toList = some n) (w : World) :
    Calls Tryd.prog 54 #[.string s] w fun e w' => e = .returned (.tuple #[.int .i64 n, .nilIface]) ∧ ∃ t, w' = Lib.bytesWorld w 5 t := Any.strconv_Atoi Tryd.lays172 s n hl h w
def Tryd.lays171_ren : Go.Shelf.Ren := ⟨fun | 171 => 33 | 243 => 50 | 246 => 63 | 283 => 75 | 284 => 76 | 285 => 77 | 286 => 78 | 129 => 86 | 317 => 85 | 318 => 87 | 319 => 88 | 320 => 89 | 337 => 94 | 338 => 95 | n => n, fun | 3 => 3 | 9 => 9 | 2 => 2 | 4 => 4 | 171 => 116 | 0 => 0 | 53 => 117 | 37 => 58 | 5 => 5 | 173 => 120 | 212 => 129 | 51 => 130 | 20 => 20 | 213 => 131 | 46 => 132 | 232 => 146 | 233 => 147 | n => n, fun | 17 => 1 | 18 => 4 | 19 => 5 | n => n⟩
theorem Tryd.lays171 : Go.Proofs.Lays.n171 Tryd.prog Tryd.lays171_ren := {
  mixed := by kernel_rfl
  f129 := Tryd.func86.trans (congrArg some (by kernel_rfl))
  f171 := Tryd.func33.trans (congrArg some (by kernel_rfl))
  f243 := Tryd.func50.trans (congrArg some (by kernel_rfl))
  f246 := Tryd.func63.trans (congrArg some (by kernel_rfl))
  f283 := Tryd.func75.trans (congrArg some (by kernel_rfl))
  f284 := Tryd.func76.trans (congrArg some (by kernel_rfl))
  f285 := Tryd.func77.trans (congrArg some (by kernel_rfl))
  f286 := Tryd.func78.trans (congrArg some (by kernel_rfl))
  f317 := Tryd.func85.trans (congrArg some (by kernel_rfl))
  f318 := Tryd.func87.trans (congrArg some (by kernel_rfl))
  f319 := Tryd.func88.trans (congrArg some (by kernel_rfl))
  f320 := Tryd.func89.trans (congrArg some (by kernel_rfl))
  f337 := Tryd.func94.trans (congrArg some (by kernel_rfl))
  f338 := Tryd.func95.trans (congrArg some (by kernel_rfl))
  t0 := Tryd.underlying0
  a0 := Tryd.isAgg0
  z0 := Tryd.sizeOf0
  v0 := Tryd.zeroValue0
  t2 := Tryd.underlying2
  a2 := Tryd.isAgg2
  z2 := Tryd.sizeOf2
  v2 := Tryd.zeroValue2
  t3 := Tryd.underlying3
  a3 := Tryd.isAgg3
  z3 := Tryd.sizeOf3
  v3 := Tryd.zeroValue3
  t4 := Tryd.underlying4
  a4 := Tryd.isAgg4
  z4 := Tryd.sizeOf4
  v4 := Tryd.zeroValue4
  t5 := Tryd.underlying5
  a5 := Tryd.isAgg5
  z5 := Tryd.sizeOf5
  v5 := Tryd.zeroValue5
  t9 := Tryd.underlying9
  a9 := Tryd.isAgg9
  z9 := Tryd.sizeOf9
  v9 := Tryd.zeroValue9
  t20 := Tryd.underlying20
  a20 := Tryd.isAgg20
  z20 := Tryd.sizeOf20
  v20 := Tryd.zeroValue20
  t37 := Tryd.underlying58
  a37 := Tryd.isAgg58
  z37 := Tryd.sizeOf58
  v37 := Tryd.zeroValue58
  t46 := Tryd.underlying132
  a46 := Tryd.isAgg132
  z46 := Tryd.sizeOf132
  v46 := Tryd.zeroValue132
  t51 := Tryd.underlying130
  a51 := Tryd.isAgg130
  z51 := Tryd.sizeOf130
  v51 := Tryd.zeroValue130
  t53 := Tryd.underlying117
  a53 := Tryd.isAgg117
  z53 := Tryd.sizeOf117
  v53 := Tryd.zeroValue117
  t171 := Tryd.underlying116
  a171 := Tryd.isAgg116
  z171 := Tryd.sizeOf116
  v171 := Tryd.zeroValue116
  t173 := Tryd.underlying120
  a173 := Tryd.isAgg120
  z173 := Tryd.sizeOf120
  v173 := Tryd.zeroValue120
  t212 := Tryd.underlying129
  a212 := Tryd.isAgg129
  z212 := Tryd.sizeOf129
  v212 := Tryd.zeroValue129
  t213 := Tryd.underlying131
  a213 := Tryd.isAgg131
  z213 := Tryd.sizeOf131
  t232 := Tryd.underlying146
  a232 := Tryd.isAgg146
  z232 := Tryd.sizeOf146
  v232 := Tryd.zeroValue146
  t233 := Tryd.underlying147
  a233 := Tryd.isAgg147
  z233 := Tryd.sizeOf147
  v233 := Tryd.zeroValue147
  g17 := by kernel_rfl
  g18 := by kernel_rfl
  g19 := by kernel_rfl }
open Go.RowKit Go.Sort Go.Lib in
theorem Tryd.strconv_Itoa_small (i : Nat) (hi : i < 100) (w : World) :
    Calls Tryd.prog 33 #[.int .i64 i] w fun e w' => e = .returned (.string ⟨(Lib.decDigits i).toArray⟩) ∧ w' = w := Any.strconv_Itoa_small Tryd.lays171 i hi w
def Tryd.laysC172_ren : Go.Shelf.Ren := ⟨fun | 172 => 54 | 244 => 66 | 245 => 67 | 247 => 80 | 279 => 81 | 280 => 82 | 281 => 83 | 282 => 84 | 287 => 91 | 316 => 92 | 171 => 33 | 205 => 93 | 321 => 96 | 322 => 97 | 243 => 50 | 246 => 63 | 283 => 75 | 284 => 76 | 285 => 77 | 286 => 78 | 129 => 86 | 317 => 85 | 318 => 87 | 319 => 88 | 320 => 89 | 337 => 94 | 338 => 95 | n => n, fun | 9 => 9 | 3 => 3 | 75 => 70 | 76 => 85 | 4 => 4 | 5 => 5 | 167 => 122 | 37 => 58 | 0 => 0 | 85 => 123 | 2 => 2 | 168 => 125 | 53 => 117 | 175 => 135 | 46 => 132 | 210 => 139 | 127 => 90 | 145 => 145 | 143 => 143 | 21 => 21 | 171 => 116 | 173 => 120 | 212 => 129 | 51 => 130 | 20 => 20 | 213 => 131 | 232 => 146 | 233 => 147 | 80 => 68 | n => n, fun | 15 => 2 | 16 => 3 | 17 => 1 | 18 => 4 | 19 => 5 | n => n⟩
theorem Tryd.laysC172 : Go.Proofs.LaysC.n172 Tryd.prog Tryd.laysC172_ren := {
  mixed := by kernel_rfl
  f129 := Tryd.func86.trans (congrArg some (by kernel_rfl))
  f171 := Tryd.func33.trans (congrArg some (by kernel_rfl))
  f172 := Tryd.func54.trans (congrArg some (by kernel_rfl))
  f205 := Tryd.func93.trans (congrArg some (by kernel_rfl))
  f243 := Tryd.func50.trans (congrArg some (by kernel_rfl))
  f244 := Tryd.func66.trans (congrArg some (by kernel_rfl))
  f245 := Tryd.func67.trans (congrArg some (by kernel_rfl))
  f246 := Tryd.func63.trans (congrArg some (by kernel_rfl))
  f247 := Tryd.func80.trans (congrArg some (by kernel_rfl))
  f279 := Tryd.func81.trans (congrArg some (by kernel_rfl))
  f280 := Tryd.func82.trans (congrArg some (by kernel_rfl))
  f281 := Tryd.func83.trans (congrArg some (by kernel_rfl))
  f282 := Tryd.func84.trans (congrArg some (by kernel_rfl))
  f283 := Tryd.func75.trans (congrArg some (by kernel_rfl))
  f284 := Tryd.func76.trans (congrArg some (by kernel_rfl))
  f285 := Tryd.func77.trans (congrArg some (by kernel_rfl))
  f286 := Tryd.func78.trans (congrArg some (by kernel_rfl))
  f287 := Tryd.func91.trans (congrArg some (by kernel_rfl))
  f316 := Tryd.func92.trans (congrArg some (by kernel_rfl))
  f317 := Tryd.func85.trans (congrArg some (by kernel_rfl))
  f318 := Tryd.func87.trans (congrArg some (by kernel_rfl))
  f319 := Tryd.func88.trans (congrArg some (by kernel_rfl))
  f320 := Tryd.func89.trans (congrArg some (by kernel_rfl))
  f321 := Tryd.func96.trans (congrArg some (by kernel_rfl))
  f322 := Tryd.func97.trans (congrArg some (by kernel_rfl))
  f337 := Tryd.func94.trans (congrArg some (by kernel_rfl))
  f338 := Tryd.func95.trans (congrArg some (by kernel_rfl))
  t0 := Tryd.underlying0
  a0 := Tryd.isAgg0
  z0 := Tryd.sizeOf0
  v0 := Tryd.zeroValue0
  t2 := Tryd.underlying2
  a2 := Tryd.isAgg2
  z2 := Tryd.sizeOf2
  v2 := Tryd.zeroValue2
  t3 := Tryd.underlying3
  a3 := Tryd.isAgg3
  z3 := Tryd.sizeOf3
  v3 := Tryd.zeroValue3
  t4 := Tryd.underlying4
  a4 := Tryd.isAgg4
  z4 := Tryd.sizeOf4
  v4 := Tryd.zeroValue4
  t5 := Tryd.underlying5
  a5 := Tryd.isAgg5
  z5 := Tryd.sizeOf5
  v5 := Tryd.zeroValue5
  t9 := Tryd.underlying9
  a9 := Tryd.isAgg9
  z9 := Tryd.sizeOf9
  v9 := Tryd.zeroValue9
  t20 := Tryd.underlying20
  a20 := Tryd.isAgg20
  z20 := Tryd.sizeOf20
  v20 := Tryd.zeroValue20
  t21 := Tryd.underlying21
  a21 := Tryd.isAgg21
  z21 := Tryd.sizeOf21
  v21 := Tryd.zeroValue21
  t37 := Tryd.underlying58
  a37 := Tryd.isAgg58
  z37 := Tryd.sizeOf58
  v37 := Tryd.zeroValue58
  t46 := Tryd.underlying132
  a46 := Tryd.isAgg132
  z46 := Tryd.sizeOf132
  v46 := Tryd.zeroValue132
  t51 := Tryd.underlying130
  a51 := Tryd.isAgg130
  z51 := Tryd.sizeOf130
  v51 := Tryd.zeroValue130
  t53 := Tryd.underlying117
  a53 := Tryd.isAgg117
  z53 := Tryd.sizeOf117
  v53 := Tryd.zeroValue117
  t75 := Tryd.underlying70
  a75 := Tryd.isAgg70
  z75 := Tryd.sizeOf70
  v75 := Tryd.zeroValue70
  t76 := Tryd.underlying85
  a76 := Tryd.isAgg85
  z76 := Tryd.sizeOf85
  v76 := Tryd.zeroValue85
  t85 := Tryd.underlying123
  a85 := Tryd.isAgg123
  z85 := Tryd.sizeOf123
  v85 := Tryd.zeroValue123
  t127 := Tryd.underlying90
  a127 := Tryd.isAgg90
  z127 := Tryd.sizeOf90
  v127 := Tryd.zeroValue90
  t143 := Tryd.underlying143
  a143 := Tryd.isAgg143
  z143 := Tryd.sizeOf143
  v143 := Tryd.zeroValue143
  t145 := Tryd.underlying145
  a145 := Tryd.isAgg145
  z145 := Tryd.sizeOf145
  v145 := Tryd.zeroValue145
  t167 := Tryd.underlying122
  a167 := Tryd.isAgg122
  z167 := Tryd.sizeOf122
  v167 := Tryd.zeroValue122
  t168 := Tryd.underlying125
  a168 := Tryd.isAgg125
  z168 := Tryd.sizeOf125
  v168 := Tryd.zeroValue125
  t171 := Tryd.underlying116
  a171 := Tryd.isAgg116
  z171 := Tryd.sizeOf116
  v171 := Tryd.zeroValue116
  t173 := Tryd.underlying120
  a173 := Tryd.isAgg120
  z173 := Tryd.sizeOf120
  v173 := Tryd.zeroValue120
  t175 := Tryd.underlying135
  a175 := Tryd.isAgg135
  z175 := Tryd.sizeOf135
  v175 := Tryd.zeroValue135
  t210 := Tryd.underlying139
  a210 := Tryd.isAgg139
  z210 := Tryd.sizeOf139
  v210 := Tryd.zeroValue139
  t212 := Tryd.underlying129
  a212 := Tryd.isAgg129
  z212 := Tryd.sizeOf129
  v212 := Tryd.zeroValue129
  t213 := Tryd.underlying131
  a213 := Tryd.isAgg131
  z213 := Tryd.sizeOf131
  t232 := Tryd.underlying146
  a232 := Tryd.isAgg146
  z232 := Tryd.sizeOf146
  v232 := Tryd.zeroValue146
  t233 := Tryd.underlying147
  a233 := Tryd.isAgg147
  z233 := Tryd.sizeOf147
  v233 := Tryd.zeroValue147
  g15 := by kernel_rfl
  g16 := by kernel_rfl
  g17 := by kernel_rfl
  g18 := by kernel_rfl
  g19 := by kernel_rfl
  t80 := Tryd.underlying68
  a80 := Tryd.isAgg68
  z80 := Tryd.sizeOf68
  v80 := Tryd.zeroValue68
  i0 := by kernel_rfl
  i2 := by kernel_rfl
  i3 := by kernel_rfl
  i4 := by kernel_rfl
  i5 := by kernel_rfl
  i9 := by kernel_rfl
  i20 := by kernel_rfl
  i21 := by kernel_rfl
  i37 := by kernel_rfl
  i46 := by kernel_rfl
  i51 := by kernel_rfl
  i53 := by kernel_rfl
  i75 := by kernel_rfl
  i76 := by kernel_rfl
  i80 := by kernel_rfl
  i85 := by kernel_rfl
  i127 := by kernel_rfl
  i143 := by kernel_rfl
  i145 := by kernel_rfl
  i167 := by kernel_rfl
  i168 := by kernel_rfl
  i171 := by kernel_rfl
  i173 := by kernel_rfl
  i175 := by kernel_rfl
  i210 := by kernel_rfl
  i212 := by kernel_rfl
  i232 := by kernel_rfl
  i233 := by kernel_rfl
  m15 := by kernel_rfl
  m16 := by kernel_rfl
  m17 := by kernel_rfl
  m18 := by kernel_rfl
  m19 := by kernel_rfl
  c0 := by kernel_rfl
  c2 := by kernel_rfl
  c3 := by kernel_rfl
  c4 := by kernel_rfl
  c5 := by kernel_rfl
  c9 := by kernel_rfl
  c20 := by kernel_rfl
  c21 := by kernel_rfl
  c37 := by kernel_rfl
  c46 := by kernel_rfl
  c51 := by kernel_rfl
  c53 := by kernel_rfl
  c75 := by kernel_rfl
  c76 := by kernel_rfl
  c80 := by kernel_rfl
  c85 := by kernel_rfl
  c127 := by kernel_rfl
  c143 := by kernel_rfl
  c145 := by kernel_rfl
  c167 := by kernel_rfl
  c168 := by kernel_rfl
  c171 := by kernel_rfl
  c173 := by kernel_rfl
  c175 := by kernel_rfl
  c210 := by kernel_rfl
  c212 := by kernel_rfl
  c213 := by kernel_rfl
  c232 := by kernel_rfl
  c233 := by kernel_rfl }
open Go.RowKit in
theorem Tryd.strconv_Atoi_syntax_var (s : ByteArray) (hlim : s.size ≤ 281474976710656) (h : Lib.atoiAll s.data.toList = Lib.atoiAll []) (tp : TypeId) (p : Value) (w : World) (hvar : w.var? Tryd.prog "strconv.ErrSyntax" = some #[.iface tp p]) :
    Calls Tryd.prog 54 #[.string s] w fun e w' => ∃ N, e = .returned (.tuple #[.int .i64 0, .iface 125 (.pointer (some ⟨N, 0, none⟩))]) ∧ w.heap.size ≤ N ∧ w'.heap[N]? = some (.cells #[.string ⟨#[65, 116, 111, 105]⟩, .string s, .iface tp p] 139 (0, 0)) ∧ Below w.heap.size w w' := Any.strconv_Atoi_syntax_var Tryd.laysC172 s hlim (h.trans rfl) tp p w hvar
end Go.Proofs
/- Chapter 05: the names of atoms: the program's and the reference's. -/
namespace Go.Ab
open Go Go.Proofs Go.RowKit
set_option maxRecDepth 20000
set_option maxHeartbeats 4000000
def numS (z : Int) : ByteArray := ⟨(Go.Lib.decDigits z.toNat).toArray⟩
def nameF (so : List SortM) (at' : List Int) (x : Int) : ByteArray :=
  if 0 ≤ srt at' x then (so.getD (srt at' x).toNat (⟨#[]⟩, false)).1 ++ ⟨#[36]⟩ ++ numS (x - (at'.take (srt at' x).toNat).sum) else ⟨#[]⟩
theorem dec_small : ∀ i, i < 100 → (Go.Lib.decDigits i).length ≤ 2 := by decide +kernel
theorem numS_size {z : Int} (h : 0 ≤ z ∧ z < 100) : (numS z).size ≤ 2 := dec_small z.toNat (by omega)
attribute [local irreducible] AW AOps thenD inBlockD AR iterEnds roundEndsN inlEnds noGotoD
theorem itoa_fn (z : Int) (hz : 0 ≤ z ∧ z < 100) : Fn Tryd.prog 33 [litI z] (litS (numS z)) where
  enters := enters_of Tryd.func33 rfl (by decide)
  calls := by
    intro N w vals hN hs hargs
    have hs : vals.size = 1 := hs
    obtain ⟨v0, rfl⟩ : ∃ v0, vals = #[v0] := by
      rcases vals with ⟨_ | ⟨v0, _ | _⟩⟩ <;> simp at hs
      exact ⟨v0, rfl⟩
    have h0 := (hargs 0 v0 _ rfl rfl).lit
    subst h0
    have h1 := Tryd.strconv_Itoa_small z.toNat (by omega) w
    rw [Int.toNat_of_nonneg hz.1] at h1
    exact h1.mono fun e w' ⟨he, hw⟩ => ⟨_, he, .pv (.lit _), hw ▸ Below.refl _ _⟩
theorem name_cases {at' : List Int} (hp : ∀ y ∈ at', 0 ≤ y) (x : Int) : srt at' x = -1 ∨ ∃ k : Nat, k < at'.length ∧ srt at' x = (k : Nat) ∧ (at'.take k).sum ≤ x ∧ x < (at'.take k).sum + at'.getD k 0 := by
  by_cases h0 : x < 0
  · exact .inl (srt_lo h0)
  by_cases h1 : at'.sum ≤ x
  · exact .inl (srt_hi hp h1)
  · obtain ⟨k, k1, k2, k3, k4⟩ := srt_in hp (x := x) (by omega) (by omega)
    rw [sum_snoc at' k1] at k4
    exact .inr ⟨k, k1, k2, k3, by rw [getD_at k1]; exact k4⟩
theorem uName_fn (s : SpecM) (at' : List Int) (st x : Int) (h : Ok5 at') (hl : s.sorts.length = at'.length) (hx : -9223372036854775808 ≤ x ∧ x ≤ 9223372036854775807) (hz : ∀ q ∈ s.sorts, q.1.size ≤ 1000) :
    Fn Tryd.prog 21 [spc s, scp at' st, litI x] (litS (nameF s.sorts at' x)) := by
  have hso := uSortOf_fn at' st x h.sm hx
  obtain ⟨so, fs, p, q⟩ := s
  simp only at hl hz ⊢
  rcases name_cases h.nn x with hn | ⟨k, k1, k2, k3, k4⟩
  · rw [hn] at hso
    have e : nameF so at' x = ⟨#[]⟩ := by unfold nameF; rw [if_neg (by rw [hn]; omega)]
    rw [e]
    refine Fn.enter (n := 27) Tryd.func21 rfl rfl rfl rfl rfl (by decide) fun g hro_ hwt_ => ?_; (try refine nz ?_)
    (refine j221 ?_; refine j33 ?_; refine zm ?_; refine zA (hso) ?_; refine j238 ?_; refine zs ?_; refine j14 ?_; refine thenD_ret ?_)
    all_goals (apply ends_ret; (exact Res.one (.tmp rfl rfl)); (exact Le.pv _))
  · rw [k2] at hso
    have hks : k < so.length := by omega
    have hff := first_fn at' st k h.sm (by omega)
    have hb := h.each _ (List.getElem_mem k1)
    have hbt := h.sm.take k
    rw [getD_at k1] at k4
    have hi := itoa_fn (x - (at'.take k).sum) (by omega)
    have e : nameF so at' x = so[k].1 ++ ⟨#[36]⟩ ++ numS (x - (at'.take k).sum) := by
      unfold nameF
      rw [if_pos (by rw [k2]; omega), k2, Int.toNat_natCast, List.getD_eq_getElem?_getD, List.getElem?_eq_getElem hks]
      rfl
    rw [e]
    have z1 := hz _ (List.getElem_mem hks)
    have z2 : (ByteArray.mk #[36]).size = 1 := rfl
    have z3 := numS_size (z := x - (at'.take k).sum) (by omega)
    generalize numS (x - (at'.take k).sum) = nm at hi z3 ⊢
    generalize (at'.take k).sum = f at hff hi hbt k3 k4 ⊢
    refine Fn.enter (n := 27) Tryd.func21 rfl rfl rfl rfl rfl (by decide) fun g hro_ hwt_ => ?_; (try refine nz ?_)
    (refine j221 ?_; refine j33 ?_; refine zm ?_; refine zA (hso) ?_; refine j238 ?_; refine zs ?_; refine j56 ?_; refine j29 ?_; refine zo ?_; (with_reducible apply AW.regionQ); exact rfl; exact rfl; kernel_rfl; (with_reducible assumption); refine j66 ?_; refine zm ?_; (focus ((with_reducible apply AOps.index_map); (iterate 7 exact rfl); rotate_left; omega)); refine AOps.fieldAddr_rN 44 0 0 1 rfl rfl rfl rfl ?_; refine nz ?_; refine zr ?_; (with_reducible apply AOps.catS); (iterate 5 exact rfl); (first | omega | decide | (simp only [ByteArray.size_append]; omega)); refine zm ?_; refine j33 ?_; refine zm ?_; refine zA (hff) ?_; refine AOps.sub rfl rfl rfl rfl rfl (by omega) ?_; refine zA (hi) ?_; (with_reducible apply AOps.catS); (iterate 5 exact rfl); (first | omega | decide | (simp only [ByteArray.size_append]; omega)); refine j35 ?_)
    all_goals (apply ends_ret; (exact Res.one (.tmp rfl rfl)); (exact Le.pv _))
end Go.Ab
/- Chapter 34: tables as text, in plain terms: what is written and how it is read. -/
namespace Go.Ab
open Go Go.Proofs
set_option maxRecDepth 20000
set_option maxHeartbeats 4000000
abbrev Bt := List UInt8
def mkS (l : Bt) : ByteArray := ⟨l.toArray⟩
abbrev sL (s : ByteArray) : Bt := s.data.toList
abbrev digT (z : Int) : Bt := Go.Lib.decDigits z.toNat
def joinT (sep : Bt) : List Bt → Bt
  | [] => []
  | x :: l => x ++ l.flatMap fun y => sep ++ y
def nameT (so : List SortM) (at' : List Int) (x : Int) : Bt := sL (nameF so at' x)
def tupT (so : List SortM) (at' : List Int) (k t : Int) : Bt := joinT [45, 62] ((tupF at'.sum k t).map (nameT so at'))
def lineT (so : List SortM) (at' : List Int) (f : FieldM) (r : RelM) : Bt := sL f.name ++ ([32, 61, 32, 123] ++ (joinT [44, 32] (r.2.map (tupT so at' r.1)) ++ [125, 10]))
def linesT (so : List SortM) (at' : List Int) : List FieldM → List RelM → Bt
  | f :: fs, r :: rs => lineT so at' f r ++ linesT so at' fs rs
  | _, _ => []
def stateT (so : List SortM) (at' : List Int) (fs : List FieldM) (i : Int) (st : List RelM) : Bt := [115, 116, 97, 116, 101, 32] ++ (digT i ++ ([10] ++ linesT so at' fs st))
def statesT (so : List SortM) (at' : List Int) (fs : List FieldM) : Int → List (List RelM) → Bt
  | _, [] => []
  | i, st :: l => stateT so at' fs i st ++ statesT so at' fs (i + 1) l
def atomsT : List SortM → List Int → Bt
  | s :: so, a :: at' => [32] ++ (sL s.1 ++ ([61] ++ (digT a ++ atomsT so at')))
  | _, _ => []
def headT (so : List SortM) (m : ModM) : Bt := [115, 99, 111, 112, 101] ++ (atomsT so m.atoms ++ ([32, 115, 116, 101, 112, 115, 61] ++ (digT m.steps ++ ([32, 108, 111, 111, 112, 61] ++ (digT m.loop ++ [10])))))
def fmtT (s : SpecM) (m : ModM) : Bt := headT s.sorts m ++ statesT s.sorts m.atoms s.fields 0 m.states
def cutT (w s : Bt) : Option Bt := if w.isPrefixOf s then some (s.drop w.length) else none
def skipT : List Bt → Bt → Option Bt
  | [], s => some s
  | w :: ws, s => (cutT w s).bind (skipT ws)
def isD (c : UInt8) : Bool := decide (48 ≤ c.toNat ∧ c.toNat ≤ 57)
def valD (c : UInt8) : Int := (c.toNat : Int) - 48
def numN : Bt → Nat
  | c :: d :: _ => if isD c then (if isD d then 2 else 1) else 0
  | [c] => if isD c then 1 else 0
  | [] => 0
def numV : Bt → Int
  | c :: d :: _ => if isD d then 10 * valD c + valD d else valD c
  | [c] => valD c
  | [] => 0
def numT (s : Bt) : Option (Int × Bt) := if numN s = 0 then none else some (numV s, s.drop (numN s))
def tupP (so : List SortM) (at' : List Int) : List Int → List Int → Bt → Option (List Int × Bt)
  | [], acc, s => some (acc, s)
  | k :: ks, acc, s => (if acc = [] then some s else cutT [45, 62] s).bind fun s => (skipT [sL (so.getD k.toNat (⟨#[]⟩, false)).1, [36]] s).bind fun s => (numT s).bind fun q =>
      if at'.getD k.toNat 0 ≤ q.1 then none else tupP so at' ks (acc ++ [(at'.take k.toNat).sum + q.1]) q.2
def fieldP (so : List SortM) (at' : List Int) (ks : List Int) : Nat → List Int → Bt → Option (List Int × Bt)
  | 0, _, _ => none
  | n + 1, ts, s => match cutT [125, 10] s with
    | some r => some (ts, r)
    | none => (if ts = [] then some s else cutT [44, 32] s).bind fun s => (tupP so at' ks [] s).bind fun q => fieldP so at' ks n (ts ++ [rnk at' q.1]) q.2
def lineP (so : List SortM) (at' : List Int) (f : FieldM) (s : Bt) : Option (RelM × Bt) := (skipT [sL f.name, [32, 61, 32, 123]] s).bind fun s => (fieldP so at' f.sorts (2 * s.length + 2) [] s).map fun q => (((f.sorts.length : Int), q.1), q.2)
def linesP (so : List SortM) (at' : List Int) : List FieldM → List RelM → Bt → Option (List RelM × Bt)
  | [], acc, s => some (acc, s)
  | f :: fs, acc, s => (lineP so at' f s).bind fun q => linesP so at' fs (acc ++ [q.1]) q.2
def statesP (so : List SortM) (at' : List Int) (fs : List FieldM) : Nat → Int → List (List RelM) → Bt → Option (List (List RelM) × Bt)
  | 0, _, acc, s => some (acc, s)
  | n + 1, i, acc, s => (skipT [[115, 116, 97, 116, 101, 32], digT i, [10]] s).bind fun s => (linesP so at' fs [] s).bind fun q => statesP so at' fs n (i + 1) (acc ++ [q.1]) q.2
def atomsP : List SortM → List Int → Bt → Option (List Int × Bt)
  | [], acc, s => some (acc, s)
  | q :: so, acc, s => (skipT [[32], sL q.1, [61]] s).bind fun s => (numT s).bind fun v => atomsP so (acc ++ [v.1]) v.2
def sortsIn (k : Nat) (fs : List FieldM) : Bool := fs.all fun f => insB k f.sorts
def modelP (s : SpecM) (t : Bt) : Option (ModM × Bt) :=
  (skipT [[115, 99, 111, 112, 101]] t).bind fun t => (atomsP s.sorts [] t).bind fun a => (skipT [[32, 115, 116, 101, 112, 115, 61]] a.2).bind fun t => (numT t).bind fun st => (skipT [[32, 108, 111, 111, 112, 61]] st.2).bind fun t =>
    (numT t).bind fun lp => (skipT [[10]] lp.2).bind fun t =>
      if scopeOk s.sorts.length a.1 st.1 = true ∧ sortsIn s.sorts.length s.fields = true then (statesP s.sorts a.1 s.fields st.1.toNat 0 [] t).map fun q => (⟨a.1, st.1, q.1, lp.1⟩, q.2) else none
theorem cut_app (w t : Bt) : cutT w (w ++ t) = some t := by
  unfold cutT
  have : w.isPrefixOf (w ++ t) = true := by simp
  rw [if_pos this, List.drop_left]
theorem skip1 (w t : Bt) : skipT [w] (w ++ t) = some t := by simp [skipT, cut_app]
theorem skip2 (w v t : Bt) : skipT [w, v] (w ++ (v ++ t)) = some t := by simp [skipT, cut_app]
theorem skip3 (w v u t : Bt) : skipT [w, v, u] (w ++ (v ++ (u ++ t))) = some t := by simp [skipT, cut_app]
def noD : Bt → Bool
  | c :: _ => !isD c
  | [] => true
theorem num_app {z : Int} (h : 0 ≤ z ∧ z < 10) {t : Bt} (ht : noD t = true) : numT (digT z ++ t) = some (z, t) := by
  have key0 : ∀ n, n < 10 → (Go.Lib.decDigits n = [(48 + n).toUInt8] ∧ isD (48 + n).toUInt8 = true ∧ valD (48 + n).toUInt8 = (n : Int)) := by decide +kernel
  have key : ∀ n, n < 10 → ∃ c, Go.Lib.decDigits n = [c] ∧ isD c = true ∧ valD c = (n : Int) := fun n h => ⟨_, key0 n h⟩
  obtain ⟨n, rfl⟩ : ∃ n : Nat, z = n := ⟨z.toNat, by omega⟩
  obtain ⟨c, h1, h2, h3⟩ := key n (by omega)
  show numT (Go.Lib.decDigits (n : Int).toNat ++ t) = _
  rw [Int.toNat_natCast, h1]
  cases t with
  | nil => simp [numT, numN, numV, h2, h3]
  | cons d t =>
    have hd : isD d = false := by simpa [noD] using ht
    simp [numT, numN, numV, h2, h3, hd]
end Go.Ab
/- Chapter 34: what was written is read, in plain terms. -/
namespace Go.Ab
open Go Go.Proofs
set_option maxRecDepth 20000
set_option maxHeartbeats 4000000
structure In1 (so : List SortM) (at' : List Int) (k x : Int) : Prop where
  lo : (at'.take k.toNat).sum ≤ x
  hi : x < (at'.take k.toNat).sum + at'.getD k.toNat 0
  ten : x < (at'.take k.toNat).sum + 10
  nm : nameT so at' x = sL (so.getD k.toNat (⟨#[]⟩, false)).1 ++ ([36] ++ digT (x - (at'.take k.toNat).sum))
  hd : ∃ c r, sL (so.getD k.toNat (⟨#[]⟩, false)).1 = c :: r ∧ c ≠ 125
def InAll (so : List SortM) (at' : List Int) : List Int → List Int → Prop
  | [], [] => True
  | k :: ks, x :: xs => In1 so at' k x ∧ InAll so at' ks xs
  | _, _ => False
theorem noD_sep {x : UInt8} {l t : Bt} (h : isD x = false) : noD ((x :: l) ++ t) = true := by simp [noD, h]
theorem noD_flat {sep : Bt} {x : UInt8} {u : Bt} (hs : sep = x :: u) (hx : isD x = false) {α : Type} (f : α → Bt) (l : List α) {t : Bt} (ht : noD t = true) : noD (l.flatMap (fun y => sep ++ f y) ++ t) = true := by
  cases l with
  | nil => simpa using ht
  | cons y l => simp [hs, noD, hx]
theorem tupP_one {so : List SortM} {at' : List Int} {k x : Int} {ks acc : List Int} {t : Bt} (h : In1 so at' k x) (ht : noD t = true) : (skipT [sL (so.getD k.toNat (⟨#[]⟩, false)).1, [36]] (nameT so at' x ++ t)).bind (fun s => (numT s).bind fun q => if at'.getD k.toNat 0 ≤ q.1 then none else tupP so at' ks (acc ++ [(at'.take k.toNat).sum + q.1]) q.2) = tupP so at' ks (acc ++ [x]) t := by
  have h1 := h.lo
  have h2 := h.hi
  have h3 := h.ten
  rw [h.nm, List.append_assoc, List.append_assoc, skip2, Option.bind_some, num_app (by omega) ht, Option.bind_some]
  simp only
  rw [if_neg (by omega), show (at'.take k.toNat).sum + (x - (at'.take k.toNat).sum) = x by omega]
theorem tupP_more {so : List SortM} {at' : List Int} {t : Bt} (ht : noD t = true) : ∀ (ks xs acc : List Int), InAll so at' ks xs → acc ≠ [] → tupP so at' ks acc (xs.flatMap (fun y => [45, 62] ++ nameT so at' y) ++ t) = some (acc ++ xs, t)
  | [], [], acc, _, _ => by simp [tupP]
  | k :: ks, x :: xs, acc, h, ha => by
    unfold tupP
    rw [if_neg ha, List.flatMap_cons, List.append_assoc, List.append_assoc, cut_app, Option.bind_some, tupP_one h.1 (noD_flat (x := 45) rfl (by decide) _ _ ht), tupP_more ht ks xs _ h.2 (by simp)]
    simp
  | [], _ :: _, _, h, _ => h.elim
  | _ :: _, [], _, h, _ => h.elim
theorem tupP_app {so : List SortM} {at' : List Int} {t : Bt} (ht : noD t = true) : ∀ {ks xs : List Int}, InAll so at' ks xs → tupP so at' ks [] (joinT [45, 62] (xs.map (nameT so at')) ++ t) = some (xs, t)
  | [], [], _ => by simp [tupP, joinT]
  | k :: ks, x :: xs, h => by
    unfold tupP
    rw [if_pos rfl, Option.bind_some, List.map_cons]
    unfold joinT
    rw [List.append_assoc, List.flatMap_map, tupP_one h.1 (noD_flat (x := 45) rfl (by decide) _ _ ht), tupP_more ht ks xs _ h.2 (by simp)]
    simp
  | [], _ :: _, h => h.elim
  | _ :: _, [], h => h.elim
structure RkOk (so : List SortM) (at' ks : List Int) (t : Int) : Prop where
  all : InAll so at' ks (tupF at'.sum (ks.length : Int) t)
  rk : rnk at' (tupF at'.sum (ks.length : Int) t) = t
theorem tupT_head {so : List SortM} {at' ks : List Int} {t : Int} (hk : ks ≠ []) (h : RkOk so at' ks t) : ∃ c r, tupT so at' (ks.length : Int) t = c :: r ∧ c ≠ 125 := by
  have h1 := h.all
  unfold tupT
  generalize tupF at'.sum (ks.length : Int) t = xs at h1
  cases ks with
  | nil => exact absurd rfl hk
  | cons k ks =>
    cases xs with
    | nil => exact h1.elim
    | cons x xs =>
      obtain ⟨c, r, e, hc⟩ := h1.1.hd
      exact ⟨c, r ++ ([36] ++ digT (x - (at'.take k.toNat).sum)) ++ _, by rw [List.map_cons]; unfold joinT; rw [h1.1.nm, e]; rfl, hc⟩
theorem cut_no {c d : UInt8} {u r : Bt} (h : c ≠ d) : cutT (d :: u) (c :: r) = none := by
  unfold cutT
  rw [if_neg]
  intro h2
  simp [List.isPrefixOf] at h2
  exact h h2.1.symm
theorem fieldP_more {so : List SortM} {at' ks : List Int} {t : Bt} (hk : ks ≠ []) : ∀ (n : Nat) (rs ts : List Int), (∀ r ∈ rs, RkOk so at' ks r) → ts ≠ [] → rs.length < n → fieldP so at' ks n ts (rs.flatMap (fun y => [44, 32] ++ tupT so at' (ks.length : Int) y) ++ ([125, 10] ++ t)) = some (ts ++ rs, t)
  | 0, _, _, _, _, h => by omega
  | n + 1, [], ts, _, _, _ => by
    unfold fieldP
    rw [List.flatMap_nil, List.nil_append, cut_app]
    simp
  | n + 1, r :: rs, ts, hr, ht, hn => by
    have h1 := hr r (by simp)
    unfold fieldP
    rw [List.flatMap_cons, List.append_assoc, List.append_assoc, show cutT [125, 10] ([44, 32] ++ (tupT so at' (ks.length : Int) r ++ (rs.flatMap (fun y => [44, 32] ++ tupT so at' (ks.length : Int) y) ++ ([125, 10] ++ t)))) = none from cut_no (by decide), if_neg ht, cut_app]
    simp only [Option.bind_some]
    unfold tupT
    rw [tupP_app (noD_flat (x := 44) rfl (by decide) _ _ (noD_sep (by decide))) h1.all, Option.bind_some]
    simp only
    rw [h1.rk]
    have := fieldP_more (t := t) hk n rs (ts ++ [r]) (fun x hx => hr x (by simp [hx])) (by simp) (by simp at hn; omega)
    unfold tupT at this
    rw [this]
    simp
theorem fieldP_app {so : List SortM} {at' ks : List Int} {t : Bt} (hk : ks ≠ []) {n : Nat} {rs : List Int} (hr : ∀ r ∈ rs, RkOk so at' ks r) (hn : rs.length < n) : fieldP so at' ks n [] (joinT [44, 32] (rs.map (tupT so at' (ks.length : Int))) ++ ([125, 10] ++ t)) = some (rs, t) := by
  obtain ⟨n, rfl⟩ : ∃ k, n = k + 1 := ⟨n - 1, by omega⟩
  cases rs with
  | nil =>
    unfold fieldP
    rw [List.map_nil]
    unfold joinT
    rw [List.nil_append, cut_app]
  | cons r rs =>
    have h1 := hr r (by simp)
    obtain ⟨c, u, e, hc⟩ := tupT_head hk h1
    unfold fieldP
    rw [List.map_cons]
    unfold joinT
    have e2 : cutT [125, 10] (tupT so at' (ks.length : Int) r ++ (rs.map (tupT so at' (ks.length : Int))).flatMap (fun y => [44, 32] ++ y) ++ ([125, 10] ++ t)) = none := by rw [e]; exact cut_no hc
    rw [e2, if_pos rfl, List.append_assoc, List.flatMap_map]
    simp only [Option.bind_some]
    rw [show tupT so at' (ks.length : Int) r = joinT [45, 62] ((tupF at'.sum (ks.length : Int) r).map (nameT so at')) from rfl, tupP_app (noD_flat (x := 44) rfl (by decide) _ _ (noD_sep (by decide))) h1.all, Option.bind_some]
    simp only
    rw [h1.rk, List.nil_append, fieldP_more hk n rs [r] (fun x hx => hr x (by simp [hx])) (by simp) (by simp at hn; omega)]
    simp
structure RelT (so : List SortM) (at' : List Int) (f : FieldM) (r : RelM) : Prop where
  ar : r.1 = (f.sorts.length : Int)
  ne : f.sorts ≠ []
  rk : ∀ t ∈ r.2, RkOk so at' f.sorts t
theorem flat_len {α : Type} (f : α → Bt) : ∀ (l : List α), (∀ x ∈ l, 1 ≤ (f x).length) → l.length ≤ (l.flatMap f).length
  | [], _ => by simp
  | x :: l, h => by
    have h1 := h x (by simp)
    have h2 := flat_len f l fun y hy => h y (by simp [hy])
    rw [List.flatMap_cons, List.length_append, List.length_cons]
    omega
theorem join_len {α : Type} (sep : Bt) (hs : 1 ≤ sep.length) (f : α → Bt) : ∀ (l : List α), l.length ≤ (joinT sep (l.map f)).length + 1
  | [] => by simp
  | x :: l => by
    show (x :: l).length ≤ (f x ++ (l.map f).flatMap (fun y => sep ++ y)).length + 1
    rw [List.flatMap_map, List.length_append, List.length_cons]
    have := flat_len (fun y => sep ++ f y) l fun y _ => by rw [List.length_append]; omega
    omega
theorem lineP_app {so : List SortM} {at' : List Int} {f : FieldM} {r : RelM} {t : Bt} (h : RelT so at' f r) : lineP so at' f (lineT so at' f r ++ t) = some (r, t) := by
  unfold lineP lineT
  rw [List.append_assoc, List.append_assoc, List.append_assoc, skip2, Option.bind_some, h.ar, fieldP_app h.ne h.rk]
  · simp only [Option.map_some]
    rw [← h.ar]
  · have := join_len [44, 32] (by simp) (tupT so at' (f.sorts.length : Int)) r.2
    rw [List.length_append]
    omega
def RelsT (so : List SortM) (at' : List Int) : List FieldM → List RelM → Prop
  | [], [] => True
  | f :: fs, r :: rs => RelT so at' f r ∧ RelsT so at' fs rs
  | _, _ => False
theorem linesP_app {so : List SortM} {at' : List Int} {t : Bt} : ∀ (fs : List FieldM) (rs acc : List RelM), RelsT so at' fs rs → linesP so at' fs acc (linesT so at' fs rs ++ t) = some (acc ++ rs, t)
  | [], [], acc, _ => by simp [linesP, linesT]
  | f :: fs, r :: rs, acc, h => by
    unfold linesP linesT
    rw [List.append_assoc, lineP_app h.1, Option.bind_some]
    simp only
    rw [linesP_app fs rs _ h.2]
    simp
  | [], _ :: _, _, h => h.elim
  | _ :: _, [], _, h => h.elim
theorem statesP_app {so : List SortM} {at' : List Int} {fs : List FieldM} {t : Bt} : ∀ (l acc : List (List RelM)) (i : Int), (∀ st ∈ l, RelsT so at' fs st) → statesP so at' fs l.length i acc (statesT so at' fs i l ++ t) = some (acc ++ l, t)
  | [], acc, i, _ => by simp [statesP, statesT]
  | st :: l, acc, i, h => by
    rw [List.length_cons]
    unfold statesP statesT stateT
    rw [List.append_assoc, List.append_assoc, List.append_assoc, List.append_assoc, skip3, Option.bind_some, linesP_app fs st [] (h st (by simp)), Option.bind_some]
    simp only [List.nil_append]
    rw [statesP_app l _ _ fun x hx => h x (by simp [hx])]
    simp
theorem atomsP_app {t : Bt} (ht : noD t = true) : ∀ (so : List SortM) (at' acc : List Int), so.length = at'.length → (∀ x ∈ at', 0 ≤ x ∧ x < 10) → atomsP so acc (atomsT so at' ++ t) = some (acc ++ at', t)
  | [], [], acc, _, _ => by simp [atomsP, atomsT]
  | q :: so, a :: at', acc, hl, h => by
    unfold atomsP atomsT
    have hn : noD (atomsT so at' ++ t) = true := by
      cases so with
      | nil => simpa [atomsT] using ht
      | cons p so =>
        cases at' with
        | nil => simp at hl
        | cons b at' => exact noD_sep (by decide)
    rw [List.append_assoc, List.append_assoc, List.append_assoc, List.append_assoc, skip3, Option.bind_some, num_app (h a (by simp)) hn, Option.bind_some]
    simp only
    rw [atomsP_app ht so at' _ (by simpa using hl) fun x hx => h x (by simp [hx])]
    simp
  | [], _ :: _, _, h, _ => by simp at h
  | _ :: _, [], _, h, _ => by simp at h
structure TabOk (s : SpecM) (m : ModM) : Prop where
  sc : scopeOk s.sorts.length m.atoms m.steps = true
  so : sortsIn s.sorts.length s.fields = true
  ln : (m.states.length : Int) = m.steps
  lp : 0 ≤ m.loop ∧ m.loop < m.states.length
  st : ∀ st ∈ m.states, RelsT s.sorts m.atoms s.fields st
theorem modelP_app {s : SpecM} {m : ModM} (h : TabOk s m) (t : Bt) : modelP s (fmtT s m ++ t) = some (m, t) := by
  obtain ⟨k1, k2, k3, k4, k5, k6, k7⟩ := scopeOk_spec h.sc
  have ha : ∀ x ∈ m.atoms, 0 ≤ x ∧ x < 10 := fun x hx => by have := sizesOk_all.1 k5 x hx; omega
  have h1 := h.ln
  have h2 := h.lp
  unfold modelP fmtT headT
  simp only [List.append_assoc]
  rw [skip1, Option.bind_some, atomsP_app (noD_sep (by decide)) s.sorts m.atoms [] k2.symm ha, Option.bind_some]
  simp only [List.nil_append]
  rw [skip1, Option.bind_some, num_app ⟨by omega, by omega⟩ (noD_sep (by decide)), Option.bind_some]
  simp only
  rw [skip1, Option.bind_some, num_app ⟨by omega, by omega⟩ (noD_sep (by decide)), Option.bind_some]
  simp only
  rw [skip1, Option.bind_some, if_pos ⟨h.sc, h.so⟩, show m.steps.toNat = m.states.length by omega, statesP_app m.states [] 0 h.st]
  rfl
end Go.Ab
/- Chapter 34: the writer: copyCheck, WriteString, put, walked. -/
namespace Go.Ab
open Go Go.Proofs
set_option maxRecDepth 20000
set_option maxHeartbeats 4000000
abbrev W0 : List (Nat × Option Ob) := [(2, some (.lit 62 #[.pointer none, .slice none 0 0])), (3, some .row)]
abbrev WB (l : List UInt8) : List (Nat × Option Ob) := [(2, some (.box [.ptr 2 0, .own 3 5 1 (bytesE l)])), (3, some .row)]
attribute [local irreducible] AW AOps thenD inBlockD AR iterEnds roundEndsN inlEnds noGotoD EndsX
theorem check0_fn : FnX Tryd.prog 49 4 W0 [.ptr 2 0] [(2, some (.box [.ptr 2 0, .own 3 5 1 []])), (3, some .row)] (.tup []) := by
  unfold W0
  refine FnX.enter (n := 20) Tryd.func49 rfl rfl rfl rfl rfl (by decide) rfl rfl fun g hro_ hwt_ => ?_; refine j23 ?_
  (refine j96 ?_; refine j258 ?_; refine AOps.load_lit rfl rfl rfl rfl rfl rfl ?_; refine AOps.eqlPN rfl rfl rfl rfl rfl rfl rfl ?_; refine j138 ?_; refine j113 ?_; (iterate 2 refine AOps.move_ptr rfl rfl rfl ?_); (with_reducible apply AOps.toUnsafe); (iterate 8 exact rfl); (with_reducible apply AOps.noEscape (hf := Tryd.func62)); decide; exact rfl; kernel_rfl; kernel_rfl; (iterate 3 exact rfl); (with_reducible apply AOps.fromUnsafe); (iterate 5 exact rfl); kernel_rfl; exact rfl; exact rfl; refine j258 ?_; (with_reducible apply AOps.store_lit); (iterate 3 exact rfl); (focus ((repeat (first | exact LitL.nil | apply LitL.cons)); done)); (iterate 7 exact rfl); (with_reducible assumption); refine nz ?_; refine AOps.nil ?_)
  (apply endsX_nor; ((exact Res.none)); ((refine ⟨.eq rfl rfl, ?_⟩; exact j42)); ((refine ⟨.box _ rfl ?_, ?_⟩; refine ⟨.eq rfl rfl, ?_⟩; refine ⟨.nilrow _ _ _ rfl, ?_⟩; exact trivial; refine ⟨.row rfl, ?_⟩; exact trivial)); exact rfl)
theorem check_fn (l : List UInt8) : FnX Tryd.prog 49 4 (WB l) [.ptr 2 0] (WB l) (.tup []) := by
  unfold WB
  refine FnX.enter (n := 20) Tryd.func49 rfl rfl rfl rfl rfl (by decide) rfl rfl fun g hro_ hwt_ => ?_; refine j23 ?_
  (refine j96 ?_; refine j258 ?_; refine zb ?_; refine AOps.eqlPS rfl rfl rfl rfl rfl rfl rfl ?_; refine j56 ?_; refine j182 ?_; refine j258 ?_; refine zb ?_; refine AOps.move_ptr rfl rfl rfl ?_; refine AOps.neqPP rfl rfl rfl rfl rfl rfl rfl ?_; refine j56 ?_; refine AW.skip ?_)
  (apply endsX_nor; ((exact Res.none)); ((refine ⟨.eq rfl rfl, ?_⟩; exact j42)); ((refine j123 ?_; exact trivial)); exact rfl)
theorem wstr0_fn (s : ByteArray) (hs : s.size ≤ 100000000) : FnX Tryd.prog 32 4 W0 [.ptr 2 0, litS s] (WB s.data.toList) .any := by
  have hc := check0_fn
  have hl : (List.nil : List UInt8).length = 0 := rfl
  unfold W0 WB at *
  refine FnX.enter (n := 19) Tryd.func32 rfl rfl rfl rfl rfl (by decide) rfl rfl fun g hro_ hwt_ => ?_; refine j23 ?_
  (refine j324 ?_; (with_reducible apply AOps.append_str0); (iterate 9 exact rfl); (first | omega | (simp only [List.length_map, List.length_append, List.length_cons, List.length_nil, List.length_drop, List.length_take, List.length_set, chunk_len]; omega)); refine nz ?_; refine j241 ?_; refine j27 ?_; refine j121 ?_; refine zq ?_; refine j331 ?_; refine j161 ?_; refine AW.ret ?_)
  (apply endsX_ret; ((exact Res.two (.tmp rfl rfl) (.tmp rfl rfl))); ((refine ⟨.any _, ?_⟩; exact j42)); ((refine j123 ?_; exact trivial)); exact rfl)
theorem wstr_fn (l : List UInt8) (s : ByteArray) (hs : s.size ≤ 100000000) (hl : l.length ≤ 100000000) : FnX Tryd.prog 32 4 (WB l) [.ptr 2 0, litS s] (WB (l ++ s.data.toList)) .any := by
  have hc := check_fn l
  unfold WB at *
  refine FnX.enter (n := 19) Tryd.func32 rfl rfl rfl rfl rfl (by decide) rfl rfl fun g hro_ hwt_ => ?_; refine j23 ?_
  (refine j324 ?_; (with_reducible apply AOps.append_str); (iterate 9 exact rfl); (first | omega | (simp only [List.length_map, List.length_append, List.length_cons, List.length_nil, List.length_drop, List.length_take, List.length_set, chunk_len]; omega)); refine nz ?_; refine j241 ?_; refine j27 ?_; refine j121 ?_; refine zq ?_; refine j331 ?_; refine j161 ?_; refine AW.ret ?_)
  (apply endsX_ret; ((exact Res.two (.tmp rfl rfl) (.tmp rfl rfl))); ((refine ⟨.any _, ?_⟩; exact j42)); ((refine j123 ?_; exact trivial)); exact rfl)
end Go.Ab
/- Chapter 34: the writer's put, walked. -/
namespace Go.Ab
open Go Go.Proofs
open Nat (reduceAdd reduceSub)
set_option maxRecDepth 20000
set_option maxHeartbeats 4000000
inductive PartM where
  | str (s : ByteArray)
  | num (z : Int)
def partV : PartM → PV
  | .str s => .lit (.iface 9 (.string s))
  | .num z => .lit (.iface 3 (.int .i64 z))
def partT : PartM → List UInt8
  | .str s => s.data.toList
  | .num z => (numS z).data.toList
def PartOk : PartM → Prop
  | .str s => s.size ≤ 100000000
  | .num z => 0 ≤ z ∧ z < 100
abbrev partsV (ps : List PartM) : PV := .slice 1 (ps.map fun p => [partV p])
attribute [local irreducible] AW AOps thenD inBlockD AR iterEnds roundEndsN inlEnds noGotoD EndsX
theorem flat_take (ps : List PartM) {k : Nat} (h : k < ps.length) : (ps.take (k + 1)).flatMap partT = (ps.take k).flatMap partT ++ partT ps[k] := by
  rw [List.take_succ_eq_append_getElem h, List.flatMap_append]; simp
theorem flat_le (ps : List PartM) (k : Nat) : ((ps.take k).flatMap partT).length ≤ (ps.flatMap partT).length := by
  conv => rhs; rw [← List.take_append_drop k ps, List.flatMap_append, List.length_append]
  omega
theorem put_fn (l : List UInt8) (ps : List PartM) (hok : ∀ p ∈ ps, PartOk p) (hn : ps.length ≤ 1000) (hl : l.length + (ps.flatMap partT).length ≤ 100000000) : FnX Tryd.prog 19 4 (WB l) [.ptr 2 0, .pv (partsV ps)] (WB (l ++ ps.flatMap partT)) (.tup []) := by
  unfold WB
  refine FnX.enter (n := 33) Tryd.func19 rfl rfl rfl rfl rfl (by decide) rfl rfl fun g hro_ hwt_ => ?_; refine j23 ?_
  (refine zq ?_; refine zm ?_; refine j222 ?_)
  (refine nz ?_; apply AW.loopR [9, 8, 0, 1000] [] (fun k : Nat => ([(10, litI k)] : List (Nat × AV))) (fun k : Nat => ([(2, some (.box [.ptr 2 0, .own 3 5 1 (bytesE (l ++ (ps.take k).flatMap partT))])), (3, some .row)] : List (Nat × Option Ob))) (fun k : Nat => k ≤ ps.length) (fun k : Nat => ps.length - k) (0); (conv => lhs; simp only [Nf.lpR, Nf.all, Nat.reduceBEq, reduceAdd, reduceSub]); (all_goals skip))
  · exact Nat.zero_le _
  · exact weak rfl (by (refine ⟨.intE (by first | with_reducible rfl | (first | rfl | (rw [List.take_zero, List.flatMap_nil, List.append_nil]))), ?_⟩; refine ⟨.intE (by first | with_reducible rfl | (first | rfl | (rw [List.take_zero, List.flatMap_nil, List.append_nil]))), ?_⟩; refine ⟨.pvE (by first | with_reducible rfl | (first | rfl | (rw [List.take_zero, List.flatMap_nil, List.append_nil]))), ?_⟩; (iterate 2 refine ⟨.eq rfl rfl, ?_⟩); exact trivial)) (by (refine ⟨.box _ rfl ?_, ?_⟩; refine ⟨.eq rfl rfl, ?_⟩; refine ⟨.ownE (by first | with_reducible rfl | (first | rfl | (rw [List.take_zero, List.flatMap_nil, List.append_nil]))) rfl, ?_⟩; exact trivial; refine ⟨.row rfl, ?_⟩; exact trivial)) rfl
  rintro k hk
  by_cases hlt : k < ps.length
  · have h1 := hok _ (List.getElem_mem hlt)
    have h2 := flat_take ps hlt
    have h3 := flat_le ps k
    have hb : (l ++ (ps.take k).flatMap partT).length ≤ 100000000 := by rw [List.length_append]; omega
    generalize hL : l ++ (ps.take k).flatMap partT = L at hb ⊢
    cases hp : ps[k] with
    | str s =>
      have heq : partV ps[k] = .lit (.iface 9 (.string s)) := by rw [hp]; rfl
      rw [hp] at h1
      have hw := wstr_fn L s h1 hb
      unfold WB at hw
      (refine j1 ?_; (focus ((with_reducible apply AOps.index_map); (iterate 7 exact rfl); rotate_left; omega)); refine zr ?_; refine j156 ?_; refine zd ?_; refine AW.block ?_; refine j289 ?_; refine j113 ?_; refine j270 ?_; refine zm ?_; refine zX (hw) ?_; refine j256 ?_; refine AOps.nil ?_; refine j151 ?_; refine zj ?_; refine zm ?_; refine zd ?_)
      exact j111
    | num z =>
      have heq : partV ps[k] = .lit (.iface 3 (.int .i64 z)) := by rw [hp]; rfl
      rw [hp] at h1
      have hi := itoa_fn z h1
      have hw := wstr_fn L (numS z) (by have := numS_size h1; omega) hb
      unfold WB at hw
      (refine j1 ?_; (focus ((with_reducible apply AOps.index_map); (iterate 7 exact rfl); rotate_left; omega)); refine zr ?_; refine j156 ?_; refine zd ?_; refine AW.block ?_; refine j2 ?_; refine AOps.taNe rfl (by with_reducible assumption) rfl (by kernel_rfl) rfl rfl rfl ?_; (iterate 2 refine AOps.extract rfl rfl rfl rfl ?_); refine j56 ?_; refine j289 ?_; refine AW.regionM [0, 1, 2, 3] [5] rfl (by assumption) (by kernel_rfl) (by kernel_rfl) rfl ?_; show AOps .held _ _ _ [_, _, _, _] _ _; refine j270 ?_; refine zm ?_; refine j4 ?_; intro k_ hk_; refine nz ?_; refine AR.step1M (i := 4) rfl (by kernel_rfl) rfl ?_; intro g_ hgro_ hw_; refine zA (hi) ?_; refine j4 ?_; refine AR.step1LM (i := 5) rfl (by kernel_rfl) rfl (by kernel_rfl) ?_; intro g_ hgro_ hwt2_; refine zX (hw) ?_; refine j256 ?_; refine j102 ?_; refine j151 ?_; refine zj ?_; refine zm ?_; refine zd ?_)
      exact j111
  · obtain rfl : k = ps.length := by omega
    (refine j269 ?_)
    (apply endsX_nor; ((exact Res.none)); ((refine ⟨.eq rfl rfl, ?_⟩; exact j42)); ((refine ⟨.box _ rfl ?_, ?_⟩; refine ⟨.eq rfl rfl, ?_⟩; refine ⟨.ownE (by first | with_reducible rfl | (rw [List.take_length])) rfl, ?_⟩; exact trivial; refine ⟨.row rfl, ?_⟩; exact trivial)); exact rfl)
theorem put0_fn (s : ByteArray) (hs : s.size ≤ 100000000) : FnX Tryd.prog 19 4 W0 [.ptr 2 0, .pv (partsV [.str s])] (WB s.data.toList) (.tup []) := by
  have hw := wstr0_fn s hs
  have heq : partV (PartM.str s) = .lit (.iface 9 (.string s)) := rfl
  unfold W0 WB at *
  refine FnX.enter (n := 33) Tryd.func19 rfl rfl rfl rfl rfl (by decide) rfl rfl fun g hro_ hwt_ => ?_; refine j23 ?_
  (refine zq ?_; refine zm ?_; refine j222 ?_; refine AW.rounds2 ?_; refine j2 ?_; refine zs ?_; refine zd ?_; refine zo ?_; refine AW.cond_lt rfl rfl ?_; refine j29 ?_; refine zo ?_; refine AW.block ?_; refine j2 ?_; (focus ((with_reducible apply AOps.index_mapI); (iterate 7 exact rfl); omega; rotate_left; (first | omega | exact Nat.zero_lt_one | exact (by simp)))); refine zr ?_; refine j156 ?_; refine zd ?_; refine AW.block ?_; refine j2 ?_; refine AOps.taY rfl (by kernel_rfl) rfl rfl ?_; (iterate 2 refine AOps.extract rfl rfl rfl rfl ?_); refine j138 ?_; refine j2 ?_; refine j7 ?_; refine j113 ?_; refine j270 ?_; refine zm ?_; refine zX (hw) ?_; refine j256 ?_; refine AOps.nil ?_; refine j151 ?_; refine zj ?_; refine zm ?_; refine zd ?_; refine j2 ?_; refine zs ?_; refine zd ?_; refine zo ?_; refine AW.cond_lf rfl rfl ?_; refine AW.exit ?_; (iterate 2 refine thenD_exit ?_); refine inBlockD_exit ?_)
  (apply endsX_nor; ((exact Res.none)); ((refine ⟨.eq rfl rfl, ?_⟩; exact j42)); ((refine j123 ?_; exact trivial)); exact rfl)
end Go.Ab
/- Chapter 34: the scanner: prefixes, try, skip, numbers, walked. -/
namespace Go.Ab
open Go Go.Proofs
open Nat (reduceAdd reduceSub)
set_option maxRecDepth 20000
set_option maxHeartbeats 4000000
abbrev SB (t : Bt) : List (Nat × Option Ob) := [(3, some (.box [litS (mkS t)]))]
abbrev SX : List (Nat × Option Ob) := [(3, some (.box [.any]))]
theorem mk_size (l : Bt) : (mkS l).size = l.length := rfl
theorem mk_len (s : ByteArray) : (sL s).length = s.size := rfl
theorem mk_ext (l : Bt) (a b : Nat) : (mkS l).extract a b = mkS ((l.drop a).take (b - a)) := by
  apply ByteArray.ext
  apply Array.toList_inj.1
  rw [Lib.extract_data]
  rfl
theorem mk_inj {l m : Bt} : mkS l = mkS m ↔ l = m := by
  constructor
  · intro h
    have h1 : (mkS l).data.toList = (mkS m).data.toList := by rw [h]
    exact h1
  · rintro rfl; rfl
theorem mk_sL (s : ByteArray) : mkS (sL s) = s := by cases s; rfl
theorem pfx_take {w s : Bt} : (w.isPrefixOf s) = decide (s.take w.length = w) := by
  rw [Bool.eq_iff_iff, List.isPrefixOf_iff_prefix, decide_eq_true_eq, List.prefix_iff_eq_take]
  exact ⟨fun h => h.symm, fun h => h.symm⟩
attribute [local irreducible] AW AOps thenD inBlockD AR iterEnds roundEndsN inlEnds noGotoD EndsX mkS
theorem pfx_fn (s w : Bt) (hs : s.length ≤ 1000000000) (hw : w.length ≤ 1000000000) : Fn Tryd.prog 90 [litS (mkS s), litS (mkS w)] (litB (w.isPrefixOf s)) := by
  have k1 := mk_size s
  have k2 := mk_size w
  by_cases h : (mkS w).size ≤ (mkS s).size
  · rw [pfx_take, show decide (s.take w.length = w) = decide ((mkS s).extract 0 (((mkS w).size : Nat) : Int).toNat = mkS w) by rw [mk_ext, Int.toNat_natCast, k2, List.drop_zero, Nat.sub_zero]; exact decide_eq_decide.2 mk_inj.symm]
    refine Fn.enter (n := 18) Tryd.func90 rfl rfl rfl rfl rfl (by decide) fun g hro_ hwt_ => ?_; (try refine nz ?_)
    (refine zq ?_; refine j156 ?_; refine AOps.len_str rfl rfl rfl rfl ?_; refine j331 ?_; refine j327 ?_; refine j332 ?_; refine zm ?_; refine zt ?_; refine AOps.len_str rfl rfl rfl rfl ?_; refine zt ?_; refine j170 ?_; refine j332 ?_; refine AOps.eqlS rfl rfl rfl rfl rfl ?_; refine zT ?_; refine j35 ?_)
    all_goals (apply ends_ret; (exact Res.one (.tmp rfl rfl)); (refine Le.litB ?_; (rfl)))
  · rw [pfx_take, decide_eq_false fun e => h (by rw [k1, k2, ← e, List.length_take]; omega)]
    refine Fn.enter (n := 18) Tryd.func90 rfl rfl rfl rfl rfl (by decide) fun g hro_ hwt_ => ?_; (try refine nz ?_)
    (refine zq ?_; refine j156 ?_; refine AOps.len_str rfl rfl rfl rfl ?_; refine j331 ?_; refine j327 ?_; (iterate 6 refine AOps.guardTn rfl rfl rfl rfl rfl rfl (by first | omega | decide) ?_); refine zF ?_; refine j35 ?_)
    all_goals (apply ends_ret; (exact Res.one (.tmp rfl rfl)); (refine Le.litB ?_; (rfl)))
theorem cutY_fn {s w r : Bt} (hs : s.length ≤ 1000000000) (hw : w.length ≤ 1000000000) (h : cutT w s = some r) : Fn Tryd.prog 65 [litS (mkS s), litS (mkS w)] (.tup [litS (mkS r), litB true]) := by
  have k1 := mk_size s
  have k2 := mk_size w
  unfold cutT at h
  split at h
  · rename_i hp
    cases h
    have hp1 := pfx_fn s w hs hw
    have hle : w.length ≤ s.length := (List.isPrefixOf_iff_prefix.1 hp).length_le
    rw [hp] at hp1
    have hc : Fn Tryd.prog 79 [litS (mkS s), litS (mkS w)] (.tup [litS (mkS (s.drop w.length)), litB true]) := by
      rw [show mkS (s.drop w.length) = (mkS s).extract (((mkS w).size : Nat) : Int).toNat (mkS s).size by rw [mk_ext, Int.toNat_natCast, k2, k1, List.take_of_length_le (by simp)]]
      refine Fn.enter (n := 15) Tryd.func79 rfl rfl rfl rfl rfl (by decide) fun g hro_ hwt_ => ?_; (try refine nz ?_)
      (refine zq ?_; refine j161 ?_; refine j248 ?_; refine zA (hp1) ?_; refine j85 ?_; refine j29 ?_; refine j2 ?_; (iterate 2 refine zm ?_); refine AOps.len_str rfl rfl rfl rfl ?_; refine AOps.slice_strF rfl rfl rfl rfl rfl rfl (by omega) (by omega) ?_; refine j161 ?_; refine AW.ret ?_)
      all_goals (apply ends_ret; (exact Res.two (.tmp rfl rfl) (.tmp rfl rfl)); (refine Le.tupL ?_; refine LeL.cons ?_ ?_; exact Le.pv _; refine LeL.cons ?_ ?_; refine Le.litB ?_; (rfl); exact LeL.nil))
    refine Fn.enter (n := 11) Tryd.func65 rfl rfl rfl rfl rfl (by decide) fun g hro_ hwt_ => ?_; (try refine nz ?_)
    (refine j318 ?_)
    all_goals (apply ends_ret; (exact Res.two (.tmp rfl rfl) (.tmp rfl rfl)); (refine Le.tupL ?_; refine LeL.cons ?_ ?_; exact Le.pv _; refine LeL.cons ?_ ?_; refine Le.litB ?_; (rfl); exact LeL.nil))
  · cases h
theorem cutN_fn {s w : Bt} (hs : s.length ≤ 1000000000) (hw : w.length ≤ 1000000000) (h : cutT w s = none) : Fn Tryd.prog 65 [litS (mkS s), litS (mkS w)] (.tup [litS (mkS s), litB false]) := by
  unfold cutT at h
  split at h
  · cases h
  · rename_i hp
    have hp1 := pfx_fn s w hs hw
    rw [eq_false_of_ne_true hp] at hp1
    have hc : Fn Tryd.prog 79 [litS (mkS s), litS (mkS w)] (.tup [litS (mkS s), litB false]) := by
      refine Fn.enter (n := 15) Tryd.func79 rfl rfl rfl rfl rfl (by decide) fun g hro_ hwt_ => ?_; (try refine nz ?_)
      (refine zq ?_; refine j161 ?_; refine j248 ?_; refine zA (hp1) ?_; refine AOps.not rfl rfl rfl ?_; refine j138 ?_; refine j36 ?_; refine j161 ?_; refine AW.ret ?_; refine thenD_ret ?_)
      all_goals (apply ends_ret; (exact Res.two (.tmp rfl rfl) (.tmp rfl rfl)); (refine Le.tupL ?_; refine LeL.cons ?_ ?_; exact Le.pv _; refine LeL.cons ?_ ?_; refine Le.litB ?_; (rfl); exact LeL.nil))
    refine Fn.enter (n := 11) Tryd.func65 rfl rfl rfl rfl rfl (by decide) fun g hro_ hwt_ => ?_; (try refine nz ?_)
    (refine j318 ?_)
    all_goals (apply ends_ret; (exact Res.two (.tmp rfl rfl) (.tmp rfl rfl)); (refine Le.tupL ?_; refine LeL.cons ?_ ?_; exact Le.pv _; refine LeL.cons ?_ ?_; refine Le.litB ?_; (rfl); exact LeL.nil))
theorem tryY_fn {s w r : Bt} (hs : s.length ≤ 1000000000) (hw : w.length ≤ 1000000000) (h : cutT w s = some r) : FnX Tryd.prog 53 4 (SB s) [.ptr 3 0, litS (mkS w)] (SB r) (litB true) := by
  have hc := cutY_fn hs hw h
  unfold SB
  refine FnX.enter (n := 21) Tryd.func53 rfl rfl rfl rfl rfl (by decide) rfl rfl fun g hro_ hwt_ => ?_; refine j23 ?_
  (refine j320 ?_)
  (apply endsX_ret; ((exact Res.one (.tmp rfl rfl))); ((refine ⟨.boolE (by first | with_reducible rfl | (rfl)), ?_⟩; exact j42)); ((exact j104)); exact rfl)
theorem tryN_fn {s w : Bt} (hs : s.length ≤ 1000000000) (hw : w.length ≤ 1000000000) (h : cutT w s = none) : FnX Tryd.prog 53 4 (SB s) [.ptr 3 0, litS (mkS w)] (SB s) (litB false) := by
  have hc := cutN_fn hs hw h
  unfold SB
  refine FnX.enter (n := 21) Tryd.func53 rfl rfl rfl rfl rfl (by decide) rfl rfl fun g hro_ hwt_ => ?_; refine j23 ?_
  (refine j320 ?_)
  (apply endsX_ret; ((exact Res.one (.tmp rfl rfl))); ((refine ⟨.boolE (by first | with_reducible rfl | (rfl)), ?_⟩; exact j42)); ((exact j104)); exact rfl)
theorem cut_len {w s r : Bt} (h : cutT w s = some r) : r.length ≤ s.length := by
  unfold cutT at h
  split at h
  · cases h; simp
  · cases h
theorem skip_len : ∀ {ws : List Bt} {s r : Bt}, skipT ws s = some r → r.length ≤ s.length
  | [], s, r, h => by cases h; exact Nat.le_refl _
  | w :: ws, s, r, h => by
    unfold skipT at h
    obtain ⟨t, h1, h2⟩ := Option.bind_eq_some_iff.1 h
    have := cut_len h1
    have := skip_len h2
    omega
abbrev wordsV (ws : List Bt) : PV := .slice 1 (ws.map fun w => [.lit (.string (mkS w))])
theorem skipY_fn (ws : List Bt) {s r : Bt} (hs : s.length ≤ 1000000000) (hw : ∀ w ∈ ws, w.length ≤ 1000000000) (hn : ws.length ≤ 1000) (h : skipT ws s = some r) : FnX Tryd.prog 39 4 (SB s) [.ptr 3 0, .pv (wordsV ws)] (SB r) (.tup []) := by
  unfold SB
  refine FnX.enter (n := 20) Tryd.func39 rfl rfl rfl rfl rfl (by decide) rfl rfl fun g hro_ hwt_ => ?_; refine j23 ?_
  (refine zq ?_; refine zm ?_; refine j222 ?_)
  (refine nz ?_; apply AW.loopR [7, 6, 0, 1000] [] (fun k : Nat × Bt => ([(8, litI k.1)] : List (Nat × AV))) (fun k : Nat × Bt => ([(3, some (.box [litS (mkS k.2)]))] : List (Nat × Option Ob))) (fun k : Nat × Bt => k.1 ≤ ws.length ∧ k.2.length ≤ 1000000000 ∧ skipT (ws.drop k.1) k.2 = some r) (fun k : Nat × Bt => ws.length - k.1) (((0 : Nat), s)); (conv => lhs; simp only [Nf.lpR, Nf.all, Nat.reduceBEq, reduceAdd, reduceSub]); (all_goals skip))
  · exact ⟨Nat.zero_le _, hs, h⟩
  · exact j165
  rintro ⟨k, t⟩ ⟨hk, ht, hsk⟩
  simp only at hk ht hsk ⊢
  by_cases hlt : k < ws.length
  · rw [List.drop_eq_getElem_cons hlt] at hsk
    unfold skipT at hsk
    obtain ⟨t', h1, h2⟩ := Option.bind_eq_some_iff.1 hsk
    have hl := cut_len h1
    have hy := tryY_fn ht (hw _ (List.getElem_mem hlt)) h1
    unfold SB at hy
    (refine j1 ?_; (focus ((with_reducible apply AOps.index_map); (iterate 7 exact rfl); rotate_left; omega)); refine zr ?_; refine j284 ?_; refine zm ?_; refine zX (hy) ?_; refine j256 ?_; refine j191 ?_)
    exact ⟨(k + 1, t'), ⟨by omega, (by show t'.length ≤ 1000000000; omega), h2⟩, (by show ws.length - (k + 1) < ws.length - k; omega), weak rfl (by (refine ⟨.intE (by first | with_reducible rfl | (rfl)), ?_⟩; refine ⟨.intE (by first | with_reducible rfl | (rfl)), ?_⟩; refine ⟨.pvE (by first | with_reducible rfl | (rfl)), ?_⟩; (iterate 2 refine ⟨.eq rfl rfl, ?_⟩); exact trivial)) (by (refine ⟨.box _ rfl ?_, ?_⟩; refine ⟨.eq rfl rfl, ?_⟩; (iterate 2 exact trivial))) rfl⟩
  · obtain rfl : k = ws.length := by omega
    rw [List.drop_length] at hsk
    cases hsk
    (refine j269 ?_)
    (apply endsX_nor; ((exact Res.none)); ((refine ⟨.eq rfl rfl, ?_⟩; exact j42)); ((exact j104)); exact rfl)
theorem skipN_fn (T : World → Prop) (ws : List Bt) {s : Bt} (hs : s.length ≤ 1000000000) (hw : ∀ w ∈ ws, w.length ≤ 1000000000) (hn : ws.length ≤ 1000) (h : skipT ws s = none) : FnD T Tryd.prog 72 39 4 (SB s) [.ptr 3 0, .pv (wordsV ws)] SX := by
  unfold SB SX
  refine FnD.enter (n := 20) Tryd.func39 rfl rfl rfl rfl (by decide) rfl rfl fun g hro_ hwt_ hT => ?_; refine j23 ?_
  (refine zq ?_; refine zm ?_; refine j222 ?_)
  (refine nz ?_; apply AW.loopR [7, 6, 0, 1000] [] (fun k : Nat × Bt => ([(8, litI k.1)] : List (Nat × AV))) (fun k : Nat × Bt => ([(3, some (.box [litS (mkS k.2)]))] : List (Nat × Option Ob))) (fun k : Nat × Bt => k.1 ≤ ws.length ∧ k.2.length ≤ 1000000000 ∧ skipT (ws.drop k.1) k.2 = none) (fun k : Nat × Bt => ws.length - k.1) (((0 : Nat), s)); (conv => lhs; simp only [Nf.lpR, Nf.all, Nat.reduceBEq, reduceAdd, reduceSub]); (all_goals skip))
  · exact ⟨Nat.zero_le _, hs, h⟩
  · exact j165
  rintro ⟨k, t⟩ ⟨hk, ht, hsk⟩
  simp only at hk ht hsk ⊢
  by_cases hlt : k < ws.length
  · rw [List.drop_eq_getElem_cons hlt] at hsk
    unfold skipT at hsk
    cases h1 : cutT ws[k] t with
    | none =>
      have hy := tryN_fn ht (hw _ (List.getElem_mem hlt)) h1
      unfold SB at hy
      (refine j1 ?_; (focus ((with_reducible apply AOps.index_map); (iterate 7 exact rfl); rotate_left; omega)); refine zr ?_; refine j284 ?_; refine zm ?_; refine zX (hy) ?_; refine j256 ?_; refine AOps.not rfl rfl rfl ?_; refine j138 ?_; refine j125 ?_; refine nz ?_; (with_reducible apply AOps.mkPanic); (iterate 3 exact rfl); kernel_rfl; exact rfl; (intro ch_ hch_); refine j22 ?_; refine j296 ?_; refine inBlockD_pan ?_)
      (apply endsP; (with_reducible assumption); ((exact j42)); ((exact j30)); exact rfl)
    | some t' =>
      rw [h1, Option.bind_some] at hsk
      have hl := cut_len h1
      have hy := tryY_fn ht (hw _ (List.getElem_mem hlt)) h1
      unfold SB at hy
      (refine j1 ?_; (focus ((with_reducible apply AOps.index_map); (iterate 7 exact rfl); rotate_left; omega)); refine zr ?_; refine j284 ?_; refine zm ?_; refine zX (hy) ?_; refine j256 ?_; refine j191 ?_)
      exact ⟨(k + 1, t'), ⟨by omega, (by show t'.length ≤ 1000000000; omega), hsk⟩, (by show ws.length - (k + 1) < ws.length - k; omega), weak rfl (by (refine ⟨.intE (by first | with_reducible rfl | (rfl)), ?_⟩; refine ⟨.intE (by first | with_reducible rfl | (rfl)), ?_⟩; refine ⟨.pvE (by first | with_reducible rfl | (rfl)), ?_⟩; (iterate 2 refine ⟨.eq rfl rfl, ?_⟩); exact trivial)) (by (refine ⟨.box _ rfl ?_, ?_⟩; refine ⟨.eq rfl rfl, ?_⟩; (iterate 2 exact trivial))) rfl⟩
  · obtain rfl : k = ws.length := by omega
    rw [List.drop_length] at hsk
    cases hsk
end Go.Ab
/- Chapter 34: the scanner's numbers, walked. -/
namespace Go.Ab
open Go Go.Proofs
open Nat (reduceAdd reduceSub)
set_option maxRecDepth 20000
set_option maxHeartbeats 4000000
theorem mk_list (l : Bt) : (mkS l).data.toList = l := rfl
theorem isD_ex {c : UInt8} (h : isD c = true) : ∃ a, a < 10 ∧ c = (48 + a).toUInt8 := by
  have h1 : 48 ≤ c.toNat ∧ c.toNat ≤ 57 := by simpa [isD] using h
  refine ⟨c.toNat - 48, by omega, ?_⟩
  apply UInt8.toNat_inj.1
  simp
  omega
theorem atoi1 {c : UInt8} (h : isD c = true) : Go.Lib.atoi [c] = some (valD c) := by
  have key : ∀ a, a < 10 → Go.Lib.atoi [(48 + a).toUInt8] = some (valD (48 + a).toUInt8) := by decide +kernel
  obtain ⟨a, ha, rfl⟩ := isD_ex h
  exact key a ha
theorem atoi2 {c d : UInt8} (h : isD c = true) (h' : isD d = true) : Go.Lib.atoi [c, d] = some (10 * valD c + valD d) := by
  have key : ∀ a, a < 10 → ∀ b, b < 10 → Go.Lib.atoi [(48 + a).toUInt8, (48 + b).toUInt8] = some (10 * valD (48 + a).toUInt8 + valD (48 + b).toUInt8) := by decide +kernel
  obtain ⟨a, ha, rfl⟩ := isD_ex h
  obtain ⟨b, hb, rfl⟩ := isD_ex h'
  exact key a ha b hb
theorem valD_rng {c : UInt8} (h : isD c = true) : 0 ≤ valD c ∧ valD c < 10 := by
  have h1 : 48 ≤ c.toNat ∧ c.toNat ≤ 57 := by simpa [isD] using h
  unfold valD
  omega
theorem numN_0 : numN [] = 0 := rfl
theorem numN_1 (c : UInt8) : numN [c] = if isD c then 1 else 0 := rfl
theorem numN_2 (c d : UInt8) (r : Bt) : numN (c :: d :: r) = if isD c then (if isD d then 2 else 1) else 0 := rfl
theorem numV_1 (c : UInt8) : numV [c] = valD c := rfl
theorem numV_2 (c d : UInt8) (r : Bt) : numV (c :: d :: r) = if isD d then 10 * valD c + valD d else valD c := rfl
theorem numN_two (t : Bt) : numN t ≤ 2 ∧ numN t ≤ t.length := by
  rcases t with _ | ⟨c, _ | ⟨d, r⟩⟩
  · simp [numN_0]
  · rw [numN_1]; split <;> simp
  · rw [numN_2]; split
    · split <;> simp
    · simp
theorem numN_is {t : Bt} {k : Nat} (h2 : k ≤ 2) (hl : k ≤ t.length) (hd : ∀ j, j < k → isD (t.getD j 0) = true) (hs : t.length ≤ k ∨ k = 2 ∨ isD (t.getD k 0) = false) : numN t = k := by
  rcases t with _ | ⟨c, _ | ⟨d, r⟩⟩
  · simp at hl; subst hl; rfl
  · simp at hl
    rw [numN_1]
    rcases Nat.lt_or_ge 0 k with h0 | h0
    · have := hd 0 h0
      simp at this
      rw [this, if_pos rfl]; omega
    · obtain rfl : k = 0 := by omega
      rcases hs with h | h | h
      · simp at h
      · omega
      · simp at h; rw [h]; rfl
  · rw [numN_2]
    rcases Nat.lt_or_ge 0 k with h0 | h0
    · have h1 := hd 0 h0
      simp at h1
      rw [h1, if_pos rfl]
      rcases Nat.lt_or_ge 1 k with h3 | h3
      · have h4 := hd 1 h3
        simp at h4
        rw [h4, if_pos rfl]; omega
      · obtain rfl : k = 1 := by omega
        rcases hs with h | h | h
        · simp at h
        · omega
        · simp at h; rw [h]; rfl
    · obtain rfl : k = 0 := by omega
      rcases hs with h | h | h
      · simp at h
      · omega
      · simp at h; rw [h]; rfl
theorem atoi_num {t : Bt} (h : numN t ≠ 0) : Go.Lib.atoi (t.take (numN t)) = some (numV t) := by
  rcases t with _ | ⟨c, _ | ⟨d, r⟩⟩
  · exact absurd rfl h
  · rw [numN_1] at h ⊢
    rw [numV_1]
    cases h1 : isD c with
    | true => exact atoi1 h1
    | false => rw [h1] at h; exact absurd rfl h
  · rw [numN_2] at h ⊢
    rw [numV_2]
    cases h1 : isD c with
    | true =>
      cases h2 : isD d with
      | true => exact atoi2 h1 h2
      | false => exact atoi1 h1
    | false => rw [h1] at h; exact absurd rfl h
theorem numV_rng {t : Bt} (h : numN t ≠ 0) : 0 ≤ numV t ∧ numV t < 100 := by
  rcases t with _ | ⟨c, _ | ⟨d, r⟩⟩
  · exact absurd rfl h
  · rw [numN_1] at h
    rw [numV_1]
    cases h1 : isD c with
    | true => have := valD_rng h1; omega
    | false => rw [h1] at h; exact absurd rfl h
  · rw [numN_2] at h
    rw [numV_2]
    cases h1 : isD c with
    | true =>
      have := valD_rng h1
      cases h2 : isD d with
      | true => have := valD_rng h2; rw [if_pos rfl]; omega
      | false => rw [if_neg (by simp)]; omega
    | false => rw [h1] at h; exact absurd rfl h
theorem numN_zero {t : Bt} (h : numN t = 0) : t.length = 0 ∨ isD (t.getD 0 0) = false := by
  rcases t with _ | ⟨c, _ | ⟨d, r⟩⟩
  · exact .inl rfl
  · rw [numN_1] at h
    cases h1 : isD c with
    | true => rw [h1] at h; cases h
    | false => exact .inr h1
  · rw [numN_2] at h
    cases h1 : isD c with
    | true => rw [h1, if_pos rfl] at h; split at h <;> omega
    | false => exact .inr h1
theorem byte_D {t : Bt} {k : Nat} : isD (t.getD k 0) = decide (48 ≤ byteAt (mkS t) k ∧ byteAt (mkS t) k ≤ 57) := by
  have : byteAt (mkS t) k = (((t.getD k 0).toNat : Nat) : Int) := rfl
  rw [this]
  unfold isD
  exact decide_eq_decide.2 (by omega)
def errT (w : World) : Prop := ∃ tp p, w.var? Tryd.prog "strconv.ErrSyntax" = some #[.iface tp p]
theorem errT_stay : Stay errT := by
  rintro w w' ⟨tp, p, h⟩ hb
  refine ⟨tp, p, ?_⟩
  unfold World.var? at h ⊢
  cases hg : Tryd.prog.globalNamed "strconv.ErrSyntax" with
  | none => rw [hg] at h; cases h
  | some g =>
    rw [hg] at h
    simp only [Option.bind_some] at h ⊢
    have hlt : g < w.heap.size := by
      rcases Nat.lt_or_ge g w.heap.size with h' | h'
      · exact h'
      · rw [Array.getElem?_eq_none h'] at h; cases h
    rw [hb.block g hlt]
    exact h
attribute [local irreducible] AW AOps thenD inBlockD AR iterEnds roundEndsN inlEnds noGotoD EndsX mkS byteAt
theorem atoi_fn {u : Bt} {v : Int} (hl : u.length ≤ 18) (h : Go.Lib.atoi u = some v) : Fn Tryd.prog 54 [litS (mkS u)] (.tup [litI v, .pv (.lit .nilIface)]) where
  enters := enters_of Tryd.func54 rfl (by decide)
  calls := by
    intro N w vals hN hs hargs
    have hs : vals.size = 1 := hs
    obtain ⟨v0, rfl⟩ : ∃ v0, vals = #[v0] := by
      rcases vals with ⟨_ | ⟨v0, _ | _⟩⟩ <;> simp at hs
      exact ⟨v0, rfl⟩
    have h0 := (hargs 0 v0 _ rfl rfl).lit
    subst h0
    refine (Tryd.strconv_Atoi (mkS u) v (by rw [mk_size]; exact hl) (by rw [mk_list]; exact h) w).mono fun e w' ⟨he, t, hw⟩ => ⟨_, he, ?_, hw ▸ Go.Lib.bytesWorld_below _ _ _⟩
    refine .tup rfl fun j x c h1 h2 => ?_
    match j, h1, h2 with
    | 0, h1, h2 => simp at h1 h2; subst h1; subst h2; exact .pv (.lit _)
    | 1, h1, h2 => simp at h1 h2; subst h1; subst h2; exact .pv (.lit _)
    | j + 2, h1, h2 => simp at h2
abbrev errR (p : TypeId × Nat) : AV := .tup [litI 0, .pv (.lit (.iface p.1 (.pointer (some ⟨p.2, 0, none⟩))))]
theorem err_ra {N : Nat → Prop} {w : World} {t : TypeId} {M : Nat} : RA (pcx N) w (.tuple #[.int .i64 0, .iface t (.pointer (some ⟨M, 0, none⟩))]) (errR (t, M)) := by
  refine .tup rfl fun j x c h1 h2 => ?_
  match j, h1, h2 with
  | 0, h1, h2 => simp at h1 h2; subst h1; subst h2; exact .pv (.lit _)
  | 1, h1, h2 => simp at h1 h2; subst h1; subst h2; exact .pv (.lit _)
  | j + 2, h1, h2 => simp at h2
theorem atoiE_fn : FnWE errT Tryd.prog 54 [litS (mkS [])] errR where
  enters := enters_of Tryd.func54 rfl (by decide)
  calls := by
    rintro N w vals ⟨tp, p, hT⟩ hN hs hargs
    have hs : vals.size = 1 := hs
    obtain ⟨v0, rfl⟩ : ∃ v0, vals = #[v0] := by
      rcases vals with ⟨_ | ⟨v0, _ | _⟩⟩ <;> simp at hs
      exact ⟨v0, rfl⟩
    have h0 := (hargs 0 v0 _ rfl rfl).lit
    subst h0
    refine (Tryd.strconv_Atoi_syntax_var (mkS []) (by show (mkS []).size ≤ _; rw [mk_size]; simp) (by rw [mk_list]) tp p w hT).mono fun e w' ⟨M, he, _, _, hb⟩ => ⟨_, (_, M), he, err_ra, hb⟩
theorem numberY_fn {t r : Bt} {v : Int} (hl : t.length ≤ 1000000000) (h : numT t = some (v, r)) : FnX Tryd.prog 40 4 (SB t) [.ptr 3 0] (SB r) (litI v) := by
  unfold numT at h
  split at h
  · cases h
  · rename_i h0
    cases h
    have h2 := numN_two t
    have kz := mk_size t
    have ha := atoi_fn (u := t.take (numN t)) (by rw [List.length_take]; omega) (atoi_num h0)
    rw [show mkS (t.take (numN t)) = (mkS t).extract 0 ((numN t : Nat) : Int).toNat by rw [mk_ext, Int.toNat_natCast, List.drop_zero, Nat.sub_zero]] at ha
    rw [show SB (t.drop (numN t)) = [(3, some (.box [litS ((mkS t).extract ((numN t : Nat) : Int).toNat (mkS t).size)]))] by rw [mk_ext, Int.toNat_natCast, kz, List.take_of_length_le (by simp)]]
    unfold SB
    generalize numV t = v at ha ⊢
    refine FnX.enter (n := 62) Tryd.func40 rfl rfl rfl rfl rfl (by decide) rfl rfl fun g hro_ hwt_ => ?_; refine j23 ?_
    (refine j234 ?_; refine j7 ?_; refine zo ?_; refine AW.block ?_)
    (refine nz ?_; apply AW.loopR [2, 0, 1000] [3] (fun k : Nat => ([(3, litI k)] : List (Nat × AV))) (fun k : Nat => ([] : List (Nat × Option Ob))) (fun k : Nat => k ≤ 2 ∧ k ≤ t.length ∧ ∀ j, j < k → isD (t.getD j 0) = true) (fun k : Nat => 2 - k) (0); (conv => lhs; simp only [Nf.lpR, Nf.all, Nat.reduceBEq, reduceAdd, reduceSub]); (all_goals skip))
    · exact ⟨by omega, by omega, fun j hj => by omega⟩
    · exact weak rfl (by (refine ⟨.intE (by first | with_reducible rfl | (rfl)), ?_⟩; refine ⟨.intE (by first | with_reducible rfl | (rfl)), ?_⟩; (iterate 2 refine ⟨.eq rfl rfl, ?_⟩); exact trivial)) (by (refine ⟨.box _ rfl ?_, ?_⟩; refine ⟨.eq rfl rfl, ?_⟩; (iterate 2 exact trivial))) rfl
    rintro k ⟨hk2, hkl, hkd⟩
    have kz := mk_size t
    by_cases c1 : k < t.length
    · by_cases c2 : k < 2
      · by_cases c3 : 48 ≤ byteAt (mkS t) k
        · by_cases c4 : byteAt (mkS t) k ≤ 57
          · (refine j122 ?_; refine j159 ?_; refine AOps.geqU rfl rfl rfl rfl rfl ?_; refine j322 ?_; refine j159 ?_; refine AOps.leqU rfl rfl rfl rfl rfl ?_; refine zT ?_; refine j246 ?_; refine j29 ?_; refine AW.block ?_; refine j113 ?_; refine zm ?_; refine zj ?_; refine j252 ?_; refine inBlockD_n ?_; refine thenD_n ?_)
            exact ⟨k + 1, ⟨by omega, by omega, fun j hj => by
              by_cases e : j = k
              · subst e; rw [byte_D, decide_eq_true ⟨c3, c4⟩]
              · exact hkd j (by omega)⟩, by omega, weak rfl (by (refine ⟨.intE (by first | with_reducible rfl | (rfl)), ?_⟩; refine ⟨.intE (by first | with_reducible rfl | (rfl)), ?_⟩; (iterate 2 refine ⟨.eq rfl rfl, ?_⟩); exact trivial)) (by (refine ⟨.box _ rfl ?_, ?_⟩; refine ⟨.eq rfl rfl, ?_⟩; (iterate 2 exact trivial))) rfl⟩
          · have hn : numN t = k := numN_is hk2 hkl hkd (.inr (.inr (by rw [byte_D, decide_eq_false (by omega)])))
            subst hn
            (refine j122 ?_; refine j159 ?_; refine AOps.geqU rfl rfl rfl rfl rfl ?_; refine j322 ?_; refine j159 ?_; refine AOps.leqU rfl rfl rfl rfl rfl ?_; refine zT ?_; refine zd ?_; refine j5 ?_; refine j19 ?_) ; (apply endsX_ret; ((exact Res.one (.tmp rfl rfl))); ((refine j157 ?_; exact j42)); ((exact j104)); exact rfl)
        · have hn : numN t = k := numN_is hk2 hkl hkd (.inr (.inr (by rw [byte_D, decide_eq_false (by omega)])))
          subst hn
          (refine j122 ?_; refine j159 ?_; refine AOps.geqU rfl rfl rfl rfl rfl ?_; refine j322 ?_; (iterate 7 refine AOps.guardTn rfl rfl rfl rfl rfl rfl (by with_reducible assumption) ?_); refine zF ?_; refine j95 ?_; refine j19 ?_) ; (apply endsX_ret; ((exact Res.one (.tmp rfl rfl))); ((refine j157 ?_; exact j42)); ((exact j104)); exact rfl)
      · have hn : numN t = k := numN_is hk2 hkl hkd (.inr (.inl (by omega)))
        subst hn
        (refine j122 ?_; (iterate 7 refine AOps.guardTn rfl rfl rfl rfl rfl rfl (by first | omega | decide) ?_); refine zF ?_; refine zm ?_; refine j135 ?_; refine AOps.pick_lf rfl rfl rfl rfl rfl rfl ?_; refine j95 ?_; refine j19 ?_) ; (apply endsX_ret; ((exact Res.one (.tmp rfl rfl))); ((refine j157 ?_; exact j42)); ((exact j104)); exact rfl)
    · have hn : numN t = k := numN_is hk2 hkl hkd (.inl (by omega))
      subst hn
      (refine j255 ?_; refine j19 ?_) ; (apply endsX_ret; ((exact Res.one (.tmp rfl rfl))); ((refine j157 ?_; exact j42)); ((exact j104)); exact rfl)
theorem numberN_fn {t : Bt} (hl : t.length ≤ 1000000000) (h : numT t = none) : FnD errT Tryd.prog 72 40 4 (SB t) [.ptr 3 0] SX := by
  unfold numT at h
  split at h
  · rename_i h0
    have h2 := numN_two t
    have kz := mk_size t
    have ha := atoiE_fn
    rw [show mkS [] = (mkS t).extract 0 ((0 : Nat) : Int).toNat by rw [mk_ext]; rfl] at ha
    have hz := numN_zero h0
    unfold SB SX
    refine FnD.enter (n := 62) Tryd.func40 rfl rfl rfl rfl (by decide) rfl rfl fun g hro_ hwt_ hT => ?_; refine j23 ?_
    (refine j234 ?_; refine j7 ?_; refine zo ?_; refine AW.block ?_)
    (refine nz ?_; apply AW.loopR [0, 1000] [3] (fun k : Nat => ([(3, litI k)] : List (Nat × AV))) (fun k : Nat => ([] : List (Nat × Option Ob))) (fun k : Nat => k = 0) (fun k : Nat => 2 - k) (0); (conv => lhs; simp only [Nf.lpR, Nf.all, Nat.reduceBEq, reduceAdd, reduceSub]); (all_goals skip))
    · exact rfl
    · exact weak rfl (by (refine ⟨.intE (by first | with_reducible rfl | (rfl)), ?_⟩; (iterate 2 refine ⟨.eq rfl rfl, ?_⟩); exact trivial)) (by (refine ⟨.box _ rfl ?_, ?_⟩; refine ⟨.eq rfl rfl, ?_⟩; (iterate 2 exact trivial))) rfl
    rintro k rfl
    by_cases c1 : 0 < t.length
    · rcases hz with hz | hz
      · exfalso; omega
      rw [byte_D] at hz
      have hz : ¬ (48 ≤ byteAt (mkS t) 0 ∧ byteAt (mkS t) 0 ≤ 57) := of_decide_eq_false hz
      by_cases c3 : 48 ≤ byteAt (mkS t) 0
      · have c4 : ¬ byteAt (mkS t) 0 ≤ 57 := fun h => hz ⟨c3, h⟩
        (refine j243 ?_; refine j159 ?_; refine AOps.leqU rfl rfl rfl rfl rfl ?_; refine zT ?_; refine j128 ?_; refine j51 ?_; refine j313 ?_; refine j170 ?_; (with_reducible apply AOps.callWE (hf := ha)); (first | (with_reducible assumption) | (refine TB.gs ?_ (by with_reducible assumption); with_reducible assumption) | (refine TB.gi ?_ (by with_reducible assumption); with_reducible assumption) | exact TB.none _); (repeat (first | exact .nil | (refine .cons rfl ?_ ?_; (first | exact .pv _ | exact .own _ _ _ _ rfl | exact .nil _ | exact .any _ | exact .rptr _ | (refine .aggL ?_; repeat (first | exact .nil | (refine .cons ?_ ?_; (first | exact .pv _ | exact .own _ _ _ _ rfl | exact .nil _)))))))); exact rfl; (intro x_); refine j219 ?_; (with_reducible apply AOps.mkPanic); (iterate 3 exact rfl); kernel_rfl; exact rfl; (intro ch_ hch_); refine j22 ?_; refine thenD_pan ?_)
        (apply endsP; (with_reducible assumption); ((exact j42)); ((exact j30)); exact rfl)
      · (refine j243 ?_; (iterate 7 refine AOps.guardTn rfl rfl rfl rfl rfl rfl (by with_reducible assumption) ?_); refine zF ?_; refine j95 ?_; refine thenD_n ?_; refine j2 ?_; refine j51 ?_; refine j313 ?_; refine j170 ?_; (with_reducible apply AOps.callWE (hf := ha)); (first | (with_reducible assumption) | (refine TB.gs ?_ (by with_reducible assumption); with_reducible assumption) | (refine TB.gi ?_ (by with_reducible assumption); with_reducible assumption) | exact TB.none _); (repeat (first | exact .nil | (refine .cons rfl ?_ ?_; (first | exact .pv _ | exact .own _ _ _ _ rfl | exact .nil _ | exact .any _ | exact .rptr _ | (refine .aggL ?_; repeat (first | exact .nil | (refine .cons ?_ ?_; (first | exact .pv _ | exact .own _ _ _ _ rfl | exact .nil _)))))))); exact rfl; (intro x_); refine j219 ?_; (with_reducible apply AOps.mkPanic); (iterate 3 exact rfl); kernel_rfl; exact rfl; (intro ch_ hch_); refine j22 ?_; refine thenD_pan ?_)
        (apply endsP; (with_reducible assumption); ((exact j42)); ((exact j30)); exact rfl)
    · (refine j255 ?_; refine thenD_n ?_; refine j2 ?_; refine j51 ?_; refine j313 ?_; refine j170 ?_; (with_reducible apply AOps.callWE (hf := ha)); (first | (with_reducible assumption) | (refine TB.gs ?_ (by with_reducible assumption); with_reducible assumption) | (refine TB.gi ?_ (by with_reducible assumption); with_reducible assumption) | exact TB.none _); (repeat (first | exact .nil | (refine .cons rfl ?_ ?_; (first | exact .pv _ | exact .own _ _ _ _ rfl | exact .nil _ | exact .any _ | exact .rptr _ | (refine .aggL ?_; repeat (first | exact .nil | (refine .cons ?_ ?_; (first | exact .pv _ | exact .own _ _ _ _ rfl | exact .nil _)))))))); exact rfl; (intro x_); refine j219 ?_; (with_reducible apply AOps.mkPanic); (iterate 3 exact rfl); kernel_rfl; exact rfl; (intro ch_ hch_); refine j22 ?_; refine thenD_pan ?_)
      (apply endsP; (with_reducible assumption); ((exact j42)); ((exact j30)); exact rfl)
  · cases h
end Go.Ab
/- Chapter 34: the scanner's tuples, walked. -/
namespace Go.Ab
open Go Go.Proofs
open Nat (reduceAdd reduceSub)
set_option maxRecDepth 20000
set_option maxHeartbeats 4000000
theorem num_spec {s r : Bt} {v : Int} (h : numT s = some (v, r)) : 0 ≤ v ∧ v < 100 ∧ r.length + 1 ≤ s.length := by
  unfold numT at h
  split at h
  · cases h
  · rename_i h0
    cases h
    have := numV_rng h0
    have h2 := numN_two s
    exact ⟨this.1, this.2, by rw [List.length_drop]; omega⟩
theorem cut_lt {w s r : Bt} (h : cutT w s = some r) : r.length + w.length = s.length := by
  unfold cutT at h
  split at h
  · rename_i hp
    cases h
    have := (List.isPrefixOf_iff_prefix.1 hp).length_le
    rw [List.length_drop]; omega
  · cases h
theorem tupP_len {so : List SortM} {at' : List Int} : ∀ {ks acc : List Int} {s r : Bt} {q : List Int}, tupP so at' ks acc s = some (q, r) → r.length ≤ s.length ∧ q.length = acc.length + ks.length
  | [], acc, s, r, q, h => by cases h; exact ⟨Nat.le_refl _, by simp⟩
  | k :: ks, acc, s, r, q, h => by
    unfold tupP at h
    obtain ⟨s1, h1, h⟩ := Option.bind_eq_some_iff.1 h
    obtain ⟨s2, h2, h⟩ := Option.bind_eq_some_iff.1 h
    obtain ⟨⟨v, s3⟩, h3, h⟩ := Option.bind_eq_some_iff.1 h
    simp only at h
    split at h
    · cases h
    · obtain ⟨h4, h5⟩ := tupP_len h
      have l1 : s1.length ≤ s.length := by
        split at h1
        · cases h1; exact Nat.le_refl _
        · exact cut_len h1
      have l2 := skip_len h2
      have l3 := (num_spec h3).2.2
      refine ⟨by omega, ?_⟩
      rw [h5]; simp; omega
attribute [local irreducible] AW AOps thenD inBlockD AR iterEnds roundEndsN inlEnds noGotoD EndsX byteAt
theorem tupleY_fn (sp : SpecM) (f : FieldM) (at' : List Int) (st : Int) {s r : Bt} {q : List Int} (h5 : SmA at') (hsum : at'.sum ≤ 1000) (hl : sp.sorts.length = at'.length) (hks : insB sp.sorts.length f.sorts = true) (hkl : f.sorts.length ≤ 1000) (hz : ∀ q ∈ sp.sorts, q.1.size ≤ 1000) (hs : s.length ≤ 1000000000) (h : tupP sp.sorts at' f.sorts [] s = some (q, r)) :
    FnX Tryd.prog 55 4 (SB s) [.ptr 3 0, spc sp, scp at' st, fld f] (SB r) (litI (rnk at' q)) := by
  have hrk := uRank_fn at' st q h5 hsum
  obtain ⟨so, fs, p_, q_⟩ := sp
  obtain ⟨nm_, ks, var_⟩ := f
  simp only at hl hks hkl h ⊢
  unfold SB 
  refine FnX.enter (n := 59) Tryd.func55 rfl rfl rfl rfl rfl (by decide) rfl rfl fun g hro_ hwt_ => ?_; refine j23 ?_
  (refine zq ?_; refine j8 ?_; refine AOps.box rfl rfl rfl rfl ?_; refine nz ?_; refine j114 ?_; refine j7 ?_; refine j124 ?_; refine j62 ?_; refine j112 ?_)
  (refine nz ?_; apply AW.loopR [15, 14, 8, 6, 5, 0, 1000] [5, 4] (fun k : Nat × List Int × Bt => ([(16, litI k.1), (9, .own 7 3 1 (k.2.1.map encI))] : List (Nat × AV))) (fun k : Nat × List Int × Bt => ([(3, some (.box [litS (mkS k.2.2)])), (7, some .row)] : List (Nat × Option Ob))) (fun k : Nat × List Int × Bt => k.1 ≤ ks.length ∧ k.2.2.length ≤ 1000000000 ∧ k.2.1.length = k.1 ∧ tupP so at' (ks.drop k.1) k.2.1 k.2.2 = some (q, r)) (fun k : Nat × List Int × Bt => ks.length - k.1) (((0 : Nat), [], s)); (conv => lhs; simp only [Nf.lpR, Nf.all, Nat.reduceBEq, reduceAdd, reduceSub]); (all_goals skip))
  · exact ⟨Nat.zero_le _, hs, rfl, h⟩
  · exact weak rfl (by (refine ⟨.intE (by first | with_reducible rfl | (rfl)), ?_⟩; refine ⟨.nilown _ _ _ rfl rfl, ?_⟩; refine ⟨.intE (by first | with_reducible rfl | (rfl)), ?_⟩; refine ⟨.pvE (by first | with_reducible rfl | (rfl)), ?_⟩; refine ⟨.intE (by first | with_reducible rfl | (rfl)), ?_⟩; (iterate 4 refine ⟨.eq rfl rfl, ?_⟩); exact trivial)) (by (refine ⟨.box _ rfl ?_, ?_⟩; refine ⟨.eq rfl rfl, ?_⟩; exact trivial; refine ⟨.newrow rfl, ?_⟩; refine ⟨.box _ rfl ?_, ?_⟩; refine ⟨.pvE (by first | with_reducible rfl | (rfl)), ?_⟩; refine ⟨.intE (by first | with_reducible rfl | (rfl)), ?_⟩; exact trivial; refine ⟨.box _ rfl ?_, ?_⟩; (iterate 2 refine ⟨.pvE (by first | with_reducible rfl | (rfl)), ?_⟩); (iterate 2 refine ⟨.eq rfl rfl, ?_⟩); (iterate 2 exact trivial))) rfl
  rintro ⟨k, acc, t⟩ ⟨hk, ht, hac, htp⟩
  simp only at hk ht hac htp ⊢
  by_cases hlt : k < ks.length
  · rw [List.drop_eq_getElem_cons hlt] at htp
    unfold tupP at htp
    have hin := List.all_eq_true.1 hks _ (List.getElem_mem hlt)
    simp only [decide_eq_true_eq] at hin
    obtain ⟨n, hn⟩ : ∃ n : Nat, ks[k] = n := ⟨ks[k].toNat, by omega⟩
    have hns : n < so.length := by omega
    have hna : n < at'.length := by omega
    have hff := first_fn at' st n h5 (by omega)
    have hb := h5.2 _ (List.getElem_mem hna)
    have hbt := h5.take n
    have hsn := h5.1
    have en : (so.getD ks[k].toNat (⟨#[]⟩, false)).1 = so[n].1 := by rw [hn, Int.toNat_natCast, List.getD_eq_getElem?_getD, List.getElem?_eq_getElem hns]; rfl
    have ea : at'.getD ks[k].toNat 0 = at'[n] := by rw [hn, Int.toNat_natCast, getD_at hna]
    have ea2 : at'[ks[k].toNat]'(by omega) = at'[n] := by simp only [hn, Int.toNat_natCast]
    have en2 : so[ks[k].toNat]'(by omega) = so[n] := by simp only [hn, Int.toNat_natCast]
    rw [en, ea] at htp
    have hz1 := hz _ (List.getElem_mem hns)
    have et : (at'.take ks[k].toNat).sum = (at'.take n).sum := by rw [hn, Int.toNat_natCast]
    rw [et] at htp
    rw [← hn] at hff
    obtain ⟨s1, h1, hA⟩ := Option.bind_eq_some_iff.1 htp
    obtain ⟨s2, h2, hB⟩ := Option.bind_eq_some_iff.1 hA
    obtain ⟨⟨v, s3⟩, h3, hC⟩ := Option.bind_eq_some_iff.1 hB
    clear htp hA hB
    simp only at hC
    split at hC
    · cases hC
    rename_i hlt2
    obtain ⟨v1, v2, v3⟩ := num_spec h3
    have l2 := skip_len h2
    have l1 : s1.length ≤ t.length := by
      split at h1
      · cases h1; exact Nat.le_refl _
      · exact cut_len h1
    have hk2 := skipY_fn [sL so[n].1, [36]] (by omega) (by rintro w hw; simp only [List.mem_cons, List.not_mem_nil, or_false] at hw; rcases hw with rfl | rfl <;> simp [mk_len] <;> omega) (by simp) h2
    simp only [wordsV, List.map_cons, List.map_nil, mk_sL] at hk2
    have hn2 := numberY_fn (by omega) h3
    unfold SB at hk2 hn2
    rw [← en2] at hk2
    rcases Nat.eq_zero_or_pos k with hk0 | hk0
    · obtain rfl : acc = [] := List.eq_nil_of_length_eq_zero (by omega)
      rw [if_pos rfl] at h1
      cases h1
      (refine j279 ?_; (focus ((with_reducible apply AOps.index_map); (iterate 7 exact rfl); rotate_left; omega)); refine j286 ?_; refine zm ?_; (focus ((with_reducible apply AOps.index_mapI); (iterate 7 exact rfl); omega; rotate_left; (first | omega | exact Nat.zero_lt_one | exact (by simp)))); refine j46 ?_; (focus ((with_reducible apply AOps.index_mapI); (iterate 7 exact rfl); omega; rotate_left; (first | omega | exact Nat.zero_lt_one | exact (by simp)))); refine j171 ?_; (with_reducible apply AOps.appendS); exact rfl; (first | exact .pv rfl | exact .own rfl | exact .nil rfl); (iterate 9 exact rfl); (first | omega | (simp only [List.length_map, List.length_append, List.length_cons, List.length_nil, List.length_drop, List.length_take, List.length_set, chunk_len]; omega)); refine nz ?_; refine j120 ?_)
      exact j44
    · rw [if_neg (by intro e; subst e; simp at hac; omega)] at h1
      have hk1 := skipY_fn [[45, 62]] ht (by simp) (by simp) (show skipT [[45, 62]] t = some s1 by unfold skipT; rw [h1]; rfl)
      simp only [wordsV, List.map_cons, List.map_nil] at hk1
      unfold SB at hk1
      (refine j279 ?_; (focus ((with_reducible apply AOps.index_map); (iterate 7 exact rfl); rotate_left; omega)); refine j257 ?_; refine zm ?_; (focus ((with_reducible apply AOps.index_mapI); (iterate 7 exact rfl); omega; rotate_left; (first | omega | exact Nat.zero_lt_one | exact (by simp)))); refine j46 ?_; (focus ((with_reducible apply AOps.index_mapI); (iterate 7 exact rfl); omega; rotate_left; (first | omega | exact Nat.zero_lt_one | exact (by simp)))); refine j171 ?_; (with_reducible apply AOps.appendS); exact rfl; (first | exact .pv rfl | exact .own rfl | exact .nil rfl); (iterate 9 exact rfl); (first | omega | (simp only [List.length_map, List.length_append, List.length_cons, List.length_nil, List.length_drop, List.length_take, List.length_set, chunk_len]; omega)); refine nz ?_; refine j120 ?_)
      exact j44
  · obtain rfl : k = ks.length := by omega
    rw [List.drop_length] at htp
    cases htp
    (refine j264 ?_; refine j33 ?_; refine AOps.move_own rfl rfl rfl ?_; refine zA (hrk) ?_; refine j35 ?_)
    (apply endsX_ret; ((exact Res.one (.tmp rfl rfl))); ((refine j157 ?_; exact j42)); ((exact j104)); exact rfl)
end Go.Ab
