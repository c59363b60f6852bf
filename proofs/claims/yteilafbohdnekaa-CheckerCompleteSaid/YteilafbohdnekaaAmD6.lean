/- Chapter 23: the proof that learns all clauses, in plain terms. -/
import Derived.Test.YteilafbohdnekaaAmD5
import Derived.Test.YteilafbohdnekaaAmVS1
set_option linter.unusedSimpArgs false
set_option linter.unusedVariables false
namespace Go.Ab
open Go Go.Proofs
set_option maxRecDepth 20000
set_option maxHeartbeats 4000000
def bitL (i t : Nat) : Int := if (i / 2 ^ t) % 2 = 0 then ((t + 1 : Nat) : Int) else -((t + 1 : Nat) : Int)
theorem litQ_mem : ∀ (j i : Nat) (x : Int), x ∈ litQ j i ↔ ∃ t, t < j ∧ x = bitL i t
  | 0, i, x => by unfold litQ; simp
  | j + 1, i, x => by
    rw [litQ, List.mem_append, litQ_mem j i x, List.mem_singleton]
    constructor
    · rintro (⟨t, h, e⟩ | e)
      · exact ⟨t, by omega, e⟩
      · exact ⟨j, by omega, e⟩
    · rintro ⟨t, h, e⟩
      by_cases ht : t = j
      · subst ht; exact .inr e
      · exact .inl ⟨t, by omega, e⟩
theorem bitL_abs (i t : Nat) : bitL i t ≠ 0 ∧ -((t + 1 : Nat) : Int) ≤ bitL i t ∧ bitL i t ≤ ((t + 1 : Nat) : Int) := by unfold bitL; split <;> omega
theorem litQ_within {n j i : Nat} (h : j ≤ n) : withinM n (litQ j i) = true := by
  unfold withinM
  rw [List.all_eq_true]
  intro x hx
  obtain ⟨t, ht, rfl⟩ := (litQ_mem j i x).1 hx
  have := bitL_abs i t
  rw [decide_eq_true_eq]
  exact ⟨this.1, by omega, by omega⟩
theorem asg_bits : ∀ (j i : Nat), i ≤ 100 → asgM j (i : Int) = ((List.range j).map (fun t => decide ((i / 2 ^ t) % 2 = 1)), ((i / 2 ^ j : Nat) : Int))
  | 0, i, _ => by simp [asgM]
  | j + 1, i, h => by
    have ih := asg_bits j i h
    have hdl : i / 2 ^ j ≤ i := Nat.div_le_self _ _
    have hdv : i / 2 ^ j / 2 = i / 2 ^ (j + 1) := by rw [Nat.pow_succ, Nat.div_div_eq_div_mul]
    rw [asgM, ih]
    simp only
    generalize hr : i / 2 ^ j = r at hdl hdv ⊢
    refine Prod.ext ?_ ?_
    · show _ ++ [decide ((r : Int).tmod 2 = 1)] = _
      rw [List.range_succ, List.map_append]
      congr 1
      show [_] = [_]
      congr 1
      rw [Bool.eq_iff_iff, decide_eq_true_eq, decide_eq_true_eq, Int.tmod_eq_emod_of_nonneg (by omega), hr]
      omega
    · show IntKind.i64.wrap ((r : Int).tdiv 2) = _
      rw [Int.tdiv_eq_ediv_of_nonneg (by omega), IntKind.wrap_i64, ← hdv]
      omega
/-- a trail that knows each variable makes true what the assignment makes true. -/
theorem full_impl {n : Nat} {cl P : List (List Int)} {i : Nat} (hi : i ≤ 100) (hcl : ∀ c ∈ cl, withinM n c = true) (hP : ∀ c ∈ P, withinM n c = true) (hun : allM (asgM n i).1 cl = false) : refImplM n (cl ++ P) (litQ n i) = true := by
  have hall : ∀ c ∈ cl ++ P, withinM n c = true := fun c hc => (List.mem_append.1 hc).elim (hcl c) (hP c)
  have hw := litQ_within (n := n) (j := n) (i := i) (Nat.le_refl _)
  unfold refImplM
  cases hc : contraM ((litQ n i).map fun x => 0 - x) with
  | true => rw [if_pos rfl]
  | false =>
    rw [if_neg (by simp), decide_eq_true_eq]
    have hf := run_fin (Int.natCast_nonneg n) hall (within_neg hw) hc
    rcases hf.fin with ⟨_, h0⟩ | ⟨j, _, h1, _⟩
    · exfalso
      have hmem : ∀ x ∈ (litQ n i).map (fun x => 0 - x), x ∈ (runM n (cl ++ P) ((litQ n i).map fun x => 0 - x)).1 := fun x hx => (hf.mem x).2 (List.mem_append.2 (.inl hx))
      have hd := hf.dist
      generalize runM n (cl ++ P) ((litQ n i).map fun x => 0 - x) = T at hd h0 hmem
      have hin : ∀ t, t < n → (0 - bitL i t) ∈ T.1 := fun t ht => hmem _ (List.mem_map.2 ⟨_, (litQ_mem n i _).2 ⟨t, ht, rfl⟩, rfl⟩)
      have hvar : ∀ y : Int, y ≠ 0 → y ≤ n → -(n : Int) ≤ y → ∃ t, t < n ∧ (y = bitL i t ∨ y = 0 - bitL i t) := fun y h1 h2 h3 => by
        refine ⟨y.natAbs - 1, by omega, ?_⟩
        unfold bitL
        split <;> omega
      have hno : allM (asgM n i).1 cl = true := by
        unfold allM
        rw [List.all_eq_true]
        intro c hc0
        have hcw := withinM_spec (hcl c hc0)
        have hst := h0 c (List.mem_append.2 (.inl hc0))
        have : ∃ y ∈ c, y ∈ T.1 := by
          apply Classical.byContradiction
          intro hno
          have hz : (0 : Int) ∈ T.1 := status_zero hd (fun x hx => (hcw x hx).1) hst (fun y hy _ => by
            obtain ⟨t, ht, e | e⟩ := hvar y (hcw y hy).1 (hcw y hy).2.1 (hcw y hy).2.2
            · have := hin t ht
              rw [e, ← Int.zero_sub]; exact this
            · exact absurd ⟨y, hy, by rw [e]; exact hin t ht⟩ hno)
          exact absurd rfl (hd.2 0 hz).1
        obtain ⟨y, hy, hyT⟩ := this
        unfold trueM
        rw [List.any_eq_true]
        refine ⟨y, hy, ?_⟩
        obtain ⟨t, ht, e | e⟩ := hvar y (hcw y hy).1 (hcw y hy).2.1 (hcw y hy).2.2
        · have := hd.no hyT
          rw [e] at this
          exact absurd (hin t ht) this
        · have hb := asg_bits n i hi
          have hlen : ((asgM n (i : Int)).1).length = n := asgM_len n i
          have hget : ((asgM n (i : Int)).1)[t]'(by rw [hlen]; exact ht) = decide ((i / 2 ^ t) % 2 = 1) := by simp [hb]
          have h2 : (i / 2 ^ t) % 2 < 2 := Nat.mod_lt _ (by decide)
          rw [e]
          unfold bitL
          by_cases hbit : (i / 2 ^ t) % 2 = 0
          · rw [if_pos hbit]
            have ht' : (0 - (0 - ((t + 1 : Nat) : Int)) - 1).toNat = t := by omega
            rw [litT_neg (by omega) (by rw [hlen]; omega)]
            simp only [ht']
            rw [hget, hbit]; rfl
          · rw [if_neg hbit]
            have ht' : (0 - -((t + 1 : Nat) : Int) - 1).toNat = t := by omega
            rw [litT_pos (by omega) (by rw [hlen]; omega)]
            simp only [ht']
            rw [hget, show (i / 2 ^ t) % 2 = 1 by omega]; rfl
      rw [hun] at hno
      cases hno
    · omega
theorem bit_add {i k t : Nat} (h : t < k) : ((i + 2 ^ k) / 2 ^ t) % 2 = (i / 2 ^ t) % 2 := by
  obtain ⟨d, rfl⟩ : ∃ d, k = t + 1 + d := ⟨k - t - 1, by omega⟩
  have : 2 ^ (t + 1 + d) = 2 ^ t * (2 * 2 ^ d) := by rw [Nat.pow_add, Nat.pow_add, Nat.pow_one, Nat.mul_assoc]
  rw [this, Nat.add_mul_div_left _ _ (Nat.two_pow_pos t), Nat.add_mul_mod_self_left]
theorem litQ_congr : ∀ {j i i' : Nat}, (∀ t, t < j → (i / 2 ^ t) % 2 = (i' / 2 ^ t) % 2) → litQ j i = litQ j i'
  | 0, _, _, _ => rfl
  | j + 1, i, i', h => by rw [litQ, litQ, litQ_congr fun t ht => h t (by omega), h j (by omega)]
theorem litQ_left {k i : Nat} (h : i < 2 ^ k) : litQ (k + 1) i = litQ k i ++ [((k + 1 : Nat) : Int)] := by
  rw [litQ, Nat.div_eq_of_lt h, if_pos rfl]
theorem litQ_right {k i : Nat} (h : i < 2 ^ k) : litQ (k + 1) (i + 2 ^ k) = litQ k i ++ [-((k + 1 : Nat) : Int)] := by
  rw [litQ, litQ_congr (i := i + 2 ^ k) (i' := i) fun t ht => bit_add ht, Nat.add_div_right _ (Nat.two_pow_pos k), Nat.div_eq_of_lt h, if_neg (by decide)]
/-- a clause whose two extensions are there is implied. -/
theorem pair_impl {n k : Nat} {cl : List (List Int)} {i : Nat} (hk : k < n) (hi : i < 2 ^ k) (hcl : ∀ c ∈ cl, withinM n c = true) (h1 : litQ (k + 1) i ∈ cl) (h2 : litQ (k + 1) (i + 2 ^ k) ∈ cl) : refImplM n cl (litQ k i) = true := by
  have hw := litQ_within (n := n) (j := k) (i := i) (by omega)
  rw [litQ_left hi] at h1
  rw [litQ_right hi] at h2
  unfold refImplM
  cases hc : contraM ((litQ k i).map fun x => 0 - x) with
  | true => rw [if_pos rfl]
  | false =>
    rw [if_neg (by simp), decide_eq_true_eq]
    have hf := run_fin (Int.natCast_nonneg n) hcl (within_neg hw) hc
    rcases hf.fin with ⟨_, h0⟩ | ⟨j, _, h1, _⟩
    · exfalso
      have hmem : ∀ x ∈ litQ k i, (-x) ∈ (runM n cl ((litQ k i).map fun x => 0 - x)).1 := fun x hx => (hf.mem _).2 (List.mem_append.2 (.inl (List.mem_map.2 ⟨x, hx, by omega⟩)))
      have hd := hf.dist
      generalize runM n cl ((litQ k i).map fun x => 0 - x) = T at hd h0 hmem
      have a1 : ((k + 1 : Nat) : Int) ∈ T.1 := status_zero hd (fun x hx => (withinM_spec (hcl _ h1) x hx).1) (h0 _ h1) (fun y hy hne => by
        rcases List.mem_append.1 hy with h | h
        · exact hmem y h
        · simp only [List.mem_singleton] at h; exact absurd h hne)
      have a2 : -((k + 1 : Nat) : Int) ∈ T.1 := status_zero hd (fun x hx => (withinM_spec (hcl _ h2) x hx).1) (h0 _ h2) (fun y hy hne => by
        rcases List.mem_append.1 hy with h | h
        · exact hmem y h
        · simp only [List.mem_singleton] at h; exact absurd h hne)
      have := hd.no a1
      rw [Int.zero_sub] at this
      exact this a2
    · omega
/-- each clause is implied by those ahead of it. -/
def justL (n : Nat) : List (List Int) → List StepM → Prop
  | _, [] => True
  | cl, t :: L => refImplM n cl t.lits = true ∧ justL n (cl ++ [t.lits]) L
theorem justL_app {n : Nat} : ∀ {A B : List StepM} {cl : List (List Int)}, justL n cl A → justL n (cl ++ A.map StepM.lits) B → justL n cl (A ++ B)
  | [], B, cl, _, h => by simpa using h
  | t :: A, B, cl, h, h' => ⟨h.1, justL_app h.2 (by simpa [List.append_assoc] using h')⟩
theorem level_lits (k m : Nat) : (levelT k m).map StepM.lits = (List.range m).map (litQ k) := by unfold levelT; rw [List.map_map]; rfl
theorem tree_just {n : Nat} (hn : n ≤ 5) {cl : List (List Int)} (hcl : ∀ c ∈ cl, withinM n c = true) (hun : ∀ i : Nat, i < 2 ^ n → allM (asgM n (i : Int)).1 cl = false) : ∀ d, d ≤ n + 1 → justL n cl (treeD n d) ∧ (∀ c ∈ (treeD n d).map StepM.lits, withinM n c = true)
  | 0, _ => ⟨trivial, by simp [treeD]⟩
  | d + 1, hd => by
    obtain ⟨h1, h2⟩ := tree_just hn hcl hun d (by omega)
    have hlev : ∀ m, m ≤ 2 ^ (n - d) → justL n (cl ++ (treeD n d).map StepM.lits) (levelT (n - d) m) ∧ (∀ c ∈ (levelT (n - d) m).map StepM.lits, withinM n c = true) := by
      intro m
      induction m with
      | zero => exact fun _ => ⟨trivial, by simp [levelT]⟩
      | succ m ih =>
        intro hm
        obtain ⟨g1, g2⟩ := ih (by omega)
        have hwm : withinM n (litQ (n - d) m) = true := litQ_within (by omega)
        rw [levelT_succ]
        refine ⟨justL_app g1 ⟨?_, trivial⟩, fun c hc => ?_⟩
        · show refImplM n _ (litQ (n - d) m) = true
          cases d with
          | zero =>
            rw [List.append_assoc]
            have hm0 : m < 2 ^ n := Nat.lt_of_lt_of_le (Nat.lt_succ_self m) hm
            have hp5 := pow5 hn
            exact full_impl (Nat.le_trans (Nat.le_of_lt hm0) (Nat.le_trans hp5 (by decide))) hcl (fun c hc => (List.mem_append.1 hc).elim (h2 c) (g2 c)) (hun m hm0)
          | succ d =>
            have hnd : n - d = n - (d + 1) + 1 := by omega
            have hk : ∀ i, i < 2 ^ (n - d) → litQ (n - d) i ∈ (treeD n (d + 1)).map StepM.lits := fun i hi => by
              rw [treeD, List.map_append, List.mem_append, level_lits]
              exact .inr (List.mem_map.2 ⟨i, List.mem_range.2 hi, rfl⟩)
            rw [hnd] at hk
            have hp : 2 ^ (n - (d + 1) + 1) = 2 ^ (n - (d + 1)) + 2 ^ (n - (d + 1)) := by rw [Nat.pow_succ]; omega
            refine pair_impl (by omega) (by omega) (fun c hc => ?_) ?_ ?_
            · rcases List.mem_append.1 hc with hc | hc
              · exact (List.mem_append.1 hc).elim (hcl c) (h2 c)
              · exact g2 c hc
            · exact List.mem_append.2 (.inl (List.mem_append.2 (.inr (hk m (by omega)))))
            · exact List.mem_append.2 (.inl (List.mem_append.2 (.inr (hk (m + 2 ^ (n - (d + 1))) (by omega)))))
        · rw [List.map_append, List.mem_append] at hc
          rcases hc with hc | hc
          · exact g2 c hc
          · simp at hc; subst hc; exact hwm
    obtain ⟨g1, g2⟩ := hlev _ (Nat.le_refl _)
    rw [treeD]
    refine ⟨justL_app h1 g1, fun c hc => ?_⟩
    rw [List.map_append, List.mem_append] at hc
    exact hc.elim (h2 c) (g2 c)
theorem tree_kind (n : Nat) : ∀ d, ∀ t ∈ treeD n d, t.kind = 1 ∧ t.sym = 0
  | 0, t, ht => by simp [treeD] at ht
  | d + 1, t, ht => by
    rw [treeD] at ht
    rcases List.mem_append.1 ht with h | h
    · exact tree_kind n d t h
    · unfold levelT at h
      obtain ⟨i, _, rfl⟩ := List.mem_map.1 h
      exact ⟨rfl, rfl⟩
theorem tree_lits (n : Nat) : ∀ d, d ≤ n + 1 → ∀ t ∈ treeD n d, withinM n t.lits = true ∧ t.lits.length ≤ n
  | 0, _, t, ht => by simp [treeD] at ht
  | d + 1, hd, t, ht => by
    rw [treeD] at ht
    rcases List.mem_append.1 ht with h | h
    · exact tree_lits n d (by omega) t h
    · unfold levelT at h
      obtain ⟨i, _, rfl⟩ := List.mem_map.1 h
      exact ⟨litQ_within (by omega), by show (litQ _ _).length ≤ n; rw [litQ_len]; omega⟩
theorem tree_last (n : Nat) : (⟨1, [], 0⟩ : StepM) ∈ treeD n (n + 1) := by
  rw [treeD, Nat.sub_self, List.mem_append]
  exact .inr (by simp [levelT, litQ])
/-- a proof that learns alone, each clause implied. -/
theorem learn_all {n : Nat} {e : EnM} : ∀ (L : List StepM) {cl : List (List Int)} {r : Bool}, justL n cl L → (∀ t ∈ L, (t.kind = 1 ∧ t.sym = 0) ∧ withinM n t.lits = true) →
    (runC e ⟨n, cl, r⟩ L).2 = L.length ∧ (runC e ⟨n, cl, r⟩ L).1.ref = (r || L.any fun t => decide ((t.lits.length : Int) = 0))
  | [], cl, r, _, _ => by rw [runC_nil]; simp
  | t :: L, cl, r, h, hL => by
    obtain ⟨⟨t1, t2⟩, t3⟩ := hL t (by simp)
    have hs : stepC e ⟨n, cl, r⟩ t = some ⟨n, cl ++ [t.lits], r || decide ((t.lits.length : Int) = 0)⟩ := by rw [stepC_1 t1, learnC, if_pos ⟨t2, t3, h.1⟩]; rfl
    rw [runC_cons hs]
    obtain ⟨g1, g2⟩ := learn_all (e := e) (r := r || decide ((t.lits.length : Int) = 0)) L h.2 fun u hu => hL u (by simp [hu])
    refine ⟨congrArg (· + 1) g1, ?_⟩
    simp only [g2, List.any_cons, Bool.or_assoc]
/-- what is learned holds under a satisfying assignment. -/
theorem learn_sound {n : Nat} {e : EnM} {v : List Bool} : ∀ (L : List StepM) {cl : List (List Int)} {r : Bool}, (∀ c ∈ cl, withinM n c = true) → allM v cl = true → (∀ t ∈ L, t.kind = 1) → (runC e ⟨n, cl, r⟩ L).2 = L.length → ∀ t ∈ L, trueM v t.lits = true
  | [], _, _, _, _, _, _ => fun t ht => by simp at ht
  | u :: L, cl, r, hcl, hv, hk, hn => by
    cases hs : stepC e ⟨n, cl, r⟩ u with
    | none => rw [runC, hs] at hn; simp at hn
    | some s1 =>
      have hl : learnC ⟨n, cl, r⟩ u = some s1 := by rw [← hs, stepC_1 (hk u (by simp))]
      unfold learnC at hl
      split at hl
      · rename_i hc
        cases hl
        have ht := (sound_law (assume := []) (Int.natCast_nonneg n) hcl rfl hc.2.1 hv).1 hc.2.2
        rw [runC_cons hs] at hn
        have hv' : allM v (cl ++ [u.lits]) = true := by
          unfold allM at hv ⊢
          rw [List.all_append, hv]; simp [ht]
        have := learn_sound (e := e) (r := r || decide ((u.lits.length : Int) = 0)) L (cl := cl ++ [u.lits]) (fun c hc0 => (List.mem_append.1 hc0).elim (hcl c) (fun h => by simp at h; subst h; exact hc.2.1)) hv' (fun t ht => hk t (by simp [ht])) (by simp at hn; exact hn)
        intro t ht'
        rcases List.mem_cons.1 ht' with rfl | ht'
        · exact ht
        · exact this t ht'
      · cases hl
end Go.Ab
