/- Chapter 07's laws: the shortest representation of a well-formed model is well-formed. -/
import Derived.Test.YtnhamicdejjjnaaAeZ
import Derived.Test.YtnhamicdejjjnaaAeY
set_option linter.unusedSimpArgs false
set_option linter.unusedVariables false
namespace Go.Ab
open Go Go.Proofs
set_option maxRecDepth 20000
set_option maxHeartbeats 8000000
theorem cols_small {at' : List Int} (h : sizesOk at' = true) {l : List Int} (hl : l.length ≤ 3) : cols (colL at' l) ≤ 125 := by
  have hz : ∀ s : Int, (at'.getD s.toNat 0).toNat ≤ 5 := by
    intro s
    by_cases hk : s.toNat < at'.length
    · rw [getD_at hk]
      have := sizesOk_all.1 h _ (List.getElem_mem hk)
      omega
    · rw [List.getD_eq_getElem?_getD, List.getElem?_eq_none (by omega)]; simp
  match l, hl with
  | [], _ => simp [cols, colL]
  | [a], _ =>
    simp only [cols, colL, List.map_cons, List.map_nil, List.foldr_cons, List.foldr_nil, Nat.mul_one]
    have := hz a; omega
  | [a, b], _ =>
    simp only [cols, colL, List.map_cons, List.map_nil, List.foldr_cons, List.foldr_nil, Nat.mul_one]
    exact Nat.le_trans (Nat.mul_le_mul (hz a) (hz b)) (by decide)
  | [a, b, c], _ =>
    simp only [cols, colL, List.map_cons, List.map_nil, List.foldr_cons, List.foldr_nil, Nat.mul_one]
    exact Nat.le_trans (Nat.mul_le_mul (hz a) (Nat.mul_le_mul (hz b) (hz c))) (by decide)
  | a :: b :: c :: d :: r, hl => simp at hl
theorem validF (s : SpecM) (m : ModM) (hfs : s.fields.length ≤ 1000) : Fn Try.prog 19 [spc s, mdl m] (litB (validB (fullR m.atoms) s m)) :=
  valid_fn (fullR m.atoms) s m hfs fun hsc f _ hc => by
    obtain ⟨hs1, hs2, hs3, hs4, hs5, hs6, hsm⟩ := scopeOk_spec hsc
    refine ⟨?_, full_fn m.atoms m.steps f.sorts (by rw [hs2]; exact hc) hsm (by omega)⟩
    show (rks _ _ _).length ≤ _
    rw [rks_len]
    unfold colsB at hc
    rw [Bool.and_eq_true, decide_eq_true_eq] at hc
    have := cols_small hs5 (l := f.sorts) hc.1.2
    omega
theorem valid_spec {full : List Int → RelM} {s : SpecM} {m : ModM} (h : validB full s m = true) : scopeOk s.sorts.length m.atoms m.steps = true ∧ ((m.states.length : Int) = m.steps ∧ 0 ≤ m.loop ∧ m.loop < m.states.length) ∧ fieldsB s.sorts.length s.fields = true ∧ statesB m.atoms.sum full s.fields (m.states.headD []) m.states = true := by
  unfold validB shapeB at h
  simp only [Bool.and_eq_true, decide_eq_true_eq] at h
  exact ⟨h.1, h.2.1, h.2.2.1, h.2.2.2⟩
theorem valid_mk {full : List Int → RelM} {s : SpecM} {m : ModM} (h1 : scopeOk s.sorts.length m.atoms m.steps = true) (h2 : (m.states.length : Int) = m.steps ∧ 0 ≤ m.loop ∧ m.loop < m.states.length) (h3 : fieldsB s.sorts.length s.fields = true) (h4 : statesB m.atoms.sum full s.fields (m.states.headD []) m.states = true) : validB full s m = true := by
  unfold validB shapeB
  rw [h1, decide_eq_true h2, h3, h4]; rfl
theorem scopeOk_st {k : Nat} {at' : List Int} {st n : Int} (h : scopeOk k at' st = true) (hn : 1 ≤ n ∧ n ≤ 4) : scopeOk k at' n = true := by
  unfold scopeOk at h ⊢
  simp only [Bool.and_eq_true, decide_eq_true_eq] at h ⊢
  exact ⟨⟨⟨h.1.1.1, h.1.1.2.1, hn.1, hn.2⟩, h.1.2⟩, h.2⟩
theorem valid_take {full : List Int → RelM} {s : SpecM} {m : ModM} (h : validB full s m = true) {n l : Nat} (hl : l < n) (hn : n ≤ m.states.length) : validB full s (shM m n l) = true := by
  obtain ⟨h1, h2, h3, h4⟩ := valid_spec h
  have hst := (scopeOk_spec h1).2.2.2.1
  refine valid_mk (scopeOk_st h1 (by show 1 ≤ (n : Int) ∧ (n : Int) ≤ 4; omega)) ?_ h3 ?_
  · simp only [shM, List.length_take]; omega
  · have e : (m.states.take n).headD [] = m.states.headD [] := by
      cases hs : m.states with
      | nil => simp
      | cons a r =>
        cases n with
        | zero => omega
        | succ n => rfl
    show statesB m.atoms.sum full s.fields ((m.states.take n).headD []) (m.states.take n) = true
    rw [e]
    unfold statesB at h4 ⊢
    rw [List.all_eq_true] at h4 ⊢
    exact fun x hx => h4 x (List.mem_of_mem_take hx)
theorem stateB_len {n : Int} {full : List Int → RelM} {fs : List FieldM} {s0 s : List RelM} (h : stateB n full fs s0 s = true) : s.length = fs.length := by
  unfold stateB at h
  rw [Bool.and_eq_true, decide_eq_true_eq] at h
  exact h.1
theorem valid_one {full : List Int → RelM} {s : SpecM} {m : ModM} (h : validB full s m = true) {x : List RelM} (hx : x ∈ m.states) : validB full s ⟨m.atoms, 1, [x], 0⟩ = true := by
  obtain ⟨h1, h2, h3, h4⟩ := valid_spec h
  refine valid_mk (scopeOk_st h1 (by show 1 ≤ (1 : Int) ∧ (1 : Int) ≤ 4; omega)) (by simp) h3 ?_
  unfold statesB at h4
  rw [List.all_eq_true] at h4
  have hne : m.states.headD [] ∈ m.states := by
    cases hs : m.states with
    | nil => rw [hs] at hx; simp at hx
    | cons a l => simp
  have hb := h4 x hx
  have hl := stateB_len hb
  have hl0 := stateB_len (h4 _ hne)
  show (List.all [x] _) = true
  simp only [List.all_cons, List.all_nil, Bool.and_true, List.headD_cons]
  unfold stateB at hb ⊢
  rw [decide_eq_true hl, Bool.true_and] at hb ⊢
  rw [cellsB_iff hl hl0] at hb
  rw [cellsB_iff hl hl]
  intro j hj
  have := hb j hj
  unfold cellB at this ⊢
  simp only [Bool.and_eq_true] at this ⊢
  exact ⟨this.1, this.2.1, this.2.2.1, by simp⟩
attribute [local irreducible] AW AOps thenD inBlockD AR iterEnds roundEndsN inlEnds noGotoD
theorem law8_fn (s : SpecM) (m : ModM) (x : Int) (hx : 0 ≤ x ∧ x ≤ 255) : Fn Try.prog 8 [spc s, mdl m, .pv (.lit (.int .u8 x))] (litB true) := by
  have hh := head_fn
  have s1 := small_fn s m
  cases e1 : smallB s m with
  | false =>
    rw [e1] at s1
    refine Fn.enter (n := 55) Try.func8 rfl rfl rfl rfl rfl (by decide) fun g hro_ hwt_ => ?_; (try (conv => rhs; simp only [Nf.all, Nat.reduceBEq, Nat.reduceAdd, Nat.reduceSub]))
    (refine AW.seqR ?_; refine AOps.box rfl rfl rfl rfl ?_; (conv => rhs; simp only [Nf.all, Nat.reduceBEq, Nat.reduceAdd, Nat.reduceSub]); refine AOps.box rfl rfl rfl rfl ?_; (conv => rhs; simp only [Nf.all, Nat.reduceBEq, Nat.reduceAdd, Nat.reduceSub]); refine AOps.assign_pv rfl rfl rfl ?_; refine AOps.nilD ?_; refine AW.seqR ?_; (conv => rhs; simp only [Nf.all, Nat.reduceBEq, Nat.reduceAdd, Nat.reduceSub]); (with_reducible apply AOps.call (hh)); (repeat (first | exact .nil | (refine .cons rfl ?_ ?_; (first | exact .pv _ | exact .own _ _ _ _ rfl | exact .nil _ | exact .any _ | exact .rptr _ | (refine .aggL ?_; repeat (first | exact .nil | (refine .cons ?_ ?_; (first | exact .pv _ | exact .own _ _ _ _ rfl | exact .nil _)))))))); exact rfl; exact rfl; exact (fun h_ => by cases h_); refine AOps.assign_pv rfl rfl rfl ?_; refine AOps.nilD ?_; refine AW.seq ?_; refine AW.seqR ?_; (conv => rhs; simp only [Nf.all, Nat.reduceBEq, Nat.reduceAdd, Nat.reduceSub]); refine AOps.load_ball rfl rfl rfl rfl rfl ?_; (conv => rhs; simp only [Nf.all, Nat.reduceBEq, Nat.reduceAdd, Nat.reduceSub]); refine AOps.load_ball rfl rfl rfl rfl rfl ?_; (conv => rhs; simp only [Nf.all, Nat.reduceBEq, Nat.reduceAdd, Nat.reduceSub]); (with_reducible apply AOps.call (s1)); (repeat (first | exact .nil | (refine .cons rfl ?_ ?_; (first | exact .pv _ | exact .own _ _ _ _ rfl | exact .nil _ | exact .any _ | exact .rptr _ | (refine .aggL ?_; repeat (first | exact .nil | (refine .cons ?_ ?_; (first | exact .pv _ | exact .own _ _ _ _ rfl | exact .nil _)))))))); exact rfl; exact rfl; exact (fun h_ => by cases h_); refine AOps.not rfl rfl rfl ?_; refine AOps.move_pv rfl rfl rfl ?_; refine AOps.guard_lf rfl rfl rfl rfl rfl rfl rfl ?_; refine AOps.guard_lf rfl rfl rfl rfl rfl rfl rfl ?_; refine AOps.guard_lf rfl rfl rfl rfl rfl rfl rfl ?_; refine AOps.guard_lf rfl rfl rfl rfl rfl rfl rfl ?_; refine AOps.pick_lt rfl rfl rfl rfl rfl rfl ?_; refine AOps.nilD ?_; refine AW.cond_lt rfl rfl ?_; refine AW.seqR ?_; (conv => rhs; simp only [Nf.all, Nat.reduceBEq, Nat.reduceAdd, Nat.reduceSub]); refine AOps.move_pv rfl rfl rfl ?_; refine AOps.assign_pv rfl rfl rfl ?_; refine AOps.nilD ?_; refine AW.ret ?_; refine thenD_ret ?_)
    (apply ends_ret; (exact Res.one (.tmp rfl rfl)); (refine Le.litB ?_; (rfl)))
  | true =>
  rw [e1] at s1
  have hfs : s.fields.length ≤ 1000 := by
    unfold smallB at e1
    simp only [Bool.and_eq_true, decide_eq_true_eq] at e1
    omega
  have v1 := validF s m hfs
  cases e2 : validB (fullR m.atoms) s m with
  | false =>
    rw [e2] at v1
    refine Fn.enter (n := 55) Try.func8 rfl rfl rfl rfl rfl (by decide) fun g hro_ hwt_ => ?_; (try (conv => rhs; simp only [Nf.all, Nat.reduceBEq, Nat.reduceAdd, Nat.reduceSub]))
    (refine AW.seqR ?_; refine AOps.box rfl rfl rfl rfl ?_; (conv => rhs; simp only [Nf.all, Nat.reduceBEq, Nat.reduceAdd, Nat.reduceSub]); refine AOps.box rfl rfl rfl rfl ?_; (conv => rhs; simp only [Nf.all, Nat.reduceBEq, Nat.reduceAdd, Nat.reduceSub]); refine AOps.assign_pv rfl rfl rfl ?_; refine AOps.nilD ?_; refine AW.seqR ?_; (conv => rhs; simp only [Nf.all, Nat.reduceBEq, Nat.reduceAdd, Nat.reduceSub]); (with_reducible apply AOps.call (hh)); (repeat (first | exact .nil | (refine .cons rfl ?_ ?_; (first | exact .pv _ | exact .own _ _ _ _ rfl | exact .nil _ | exact .any _ | exact .rptr _ | (refine .aggL ?_; repeat (first | exact .nil | (refine .cons ?_ ?_; (first | exact .pv _ | exact .own _ _ _ _ rfl | exact .nil _)))))))); exact rfl; exact rfl; exact (fun h_ => by cases h_); refine AOps.assign_pv rfl rfl rfl ?_; refine AOps.nilD ?_; refine AW.seq ?_; refine AW.seqR ?_; (conv => rhs; simp only [Nf.all, Nat.reduceBEq, Nat.reduceAdd, Nat.reduceSub]); refine AOps.load_ball rfl rfl rfl rfl rfl ?_; (conv => rhs; simp only [Nf.all, Nat.reduceBEq, Nat.reduceAdd, Nat.reduceSub]); refine AOps.load_ball rfl rfl rfl rfl rfl ?_; (conv => rhs; simp only [Nf.all, Nat.reduceBEq, Nat.reduceAdd, Nat.reduceSub]); (with_reducible apply AOps.call (s1)); (repeat (first | exact .nil | (refine .cons rfl ?_ ?_; (first | exact .pv _ | exact .own _ _ _ _ rfl | exact .nil _ | exact .any _ | exact .rptr _ | (refine .aggL ?_; repeat (first | exact .nil | (refine .cons ?_ ?_; (first | exact .pv _ | exact .own _ _ _ _ rfl | exact .nil _)))))))); exact rfl; exact rfl; exact (fun h_ => by cases h_); refine AOps.not rfl rfl rfl ?_; refine AOps.move_pv rfl rfl rfl ?_; refine AOps.guard_lt rfl rfl rfl rfl rfl rfl rfl ?_; refine AOps.load_ball rfl rfl rfl rfl rfl ?_; (conv => rhs; simp only [Nf.all, Nat.reduceBEq, Nat.reduceAdd, Nat.reduceSub]); refine AOps.guard_lt rfl rfl rfl rfl rfl rfl rfl ?_; refine AOps.load_ball rfl rfl rfl rfl rfl ?_; (conv => rhs; simp only [Nf.all, Nat.reduceBEq, Nat.reduceAdd, Nat.reduceSub]); refine AOps.guard_lt rfl rfl rfl rfl rfl rfl rfl ?_; (with_reducible apply AOps.call (v1)); (repeat (first | exact .nil | (refine .cons rfl ?_ ?_; (first | exact .pv _ | exact .own _ _ _ _ rfl | exact .nil _ | exact .any _ | exact .rptr _ | (refine .aggL ?_; repeat (first | exact .nil | (refine .cons ?_ ?_; (first | exact .pv _ | exact .own _ _ _ _ rfl | exact .nil _)))))))); exact rfl; exact rfl; exact (fun h_ => by cases h_); refine AOps.guard_lt rfl rfl rfl rfl rfl rfl rfl ?_; refine AOps.not rfl rfl rfl ?_; refine AOps.pick_lf rfl rfl rfl rfl rfl rfl ?_; refine AOps.nilD ?_; refine AW.cond_lt rfl rfl ?_; refine AW.seqR ?_; (conv => rhs; simp only [Nf.all, Nat.reduceBEq, Nat.reduceAdd, Nat.reduceSub]); refine AOps.move_pv rfl rfl rfl ?_; refine AOps.assign_pv rfl rfl rfl ?_; refine AOps.nilD ?_; refine AW.ret ?_; refine thenD_ret ?_)
    (apply ends_ret; (exact Res.one (.tmp rfl rfl)); (refine Le.litB ?_; (rfl)))
  | true =>
  rw [e2] at v1
  obtain ⟨q1, q2, q3, q4⟩ := valid_spec e2
  have hst := scopeOk_spec q1
  have hlb : loopB m = true := decide_eq_true (by omega)
  have om := okM (s := s) e1 hlb
  have l1 := looped_fn m
  change Fn _ _ _ (litB (loopB m)) at l1
  rw [hlb] at l1
  obtain ⟨n, l, hs⟩ := short_ex om.lp
  have hn := Short.leLen om.lp hs
  have ca := shorten_fn m om.lp (by omega) (by have := om.at'; omega) n l hs
  have v2 := validF s (shM m n l) hfs
  rw [show (shM m n l).atoms = m.atoms from rfl, valid_take e2 hs.1.1 hn] at v2
  have hm1 := Int.emod_nonneg x (show (m.states.length : Int) ≠ 0 by omega)
  have hm2 := Int.emod_lt_of_pos x (show 0 < (m.states.length : Int) by omega)
  have v3 := validF s ⟨m.atoms, 1, (m.states.drop (x % m.states.length).toNat).take ((x % m.states.length + 1).toNat - (x % m.states.length).toNat), 0⟩ hfs
  rw [show (m.states.drop (x % m.states.length).toNat).take ((x % m.states.length + 1).toNat - (x % m.states.length).toNat) = [m.states[(x % m.states.length).toNat]'(by omega)] from by
    rw [show (x % m.states.length + 1).toNat - (x % m.states.length).toNat = 1 by omega, List.drop_eq_getElem_cons (by omega)]; rfl, valid_one e2 (List.getElem_mem _)] at v3
  rw [show [m.states[(x % m.states.length).toNat]'(by omega)] = (m.states.drop (x % m.states.length).toNat).take ((x % m.states.length + 1).toNat - (x % m.states.length).toNat) from by
    rw [show (x % m.states.length + 1).toNat - (x % m.states.length).toNat = 1 by omega, List.drop_eq_getElem_cons (by omega)]; rfl] at v3
  have hlen4 : m.states.length ≤ 4 := by omega
  clear e1 e2 q1 q3 q4 hst hlb om hs
  generalize shM m n l = sm at *
  obtain ⟨at', st, ss, lp⟩ := m
  obtain ⟨at2, st2, ss2, lp2⟩ := sm
  obtain ⟨so, fs, p, q⟩ := s
  simp only at *
  refine Fn.enter (n := 55) Try.func8 rfl rfl rfl rfl rfl (by decide) fun g hro_ hwt_ => ?_; (try (conv => rhs; simp only [Nf.all, Nat.reduceBEq, Nat.reduceAdd, Nat.reduceSub]))
  (refine AW.seqR ?_; refine AOps.box rfl rfl rfl rfl ?_; (conv => rhs; simp only [Nf.all, Nat.reduceBEq, Nat.reduceAdd, Nat.reduceSub]); refine AOps.box rfl rfl rfl rfl ?_; (conv => rhs; simp only [Nf.all, Nat.reduceBEq, Nat.reduceAdd, Nat.reduceSub]); refine AOps.assign_pv rfl rfl rfl ?_; refine AOps.nilD ?_; refine AW.seqR ?_; (conv => rhs; simp only [Nf.all, Nat.reduceBEq, Nat.reduceAdd, Nat.reduceSub]); (with_reducible apply AOps.call (hh)); (repeat (first | exact .nil | (refine .cons rfl ?_ ?_; (first | exact .pv _ | exact .own _ _ _ _ rfl | exact .nil _ | exact .any _ | exact .rptr _ | (refine .aggL ?_; repeat (first | exact .nil | (refine .cons ?_ ?_; (first | exact .pv _ | exact .own _ _ _ _ rfl | exact .nil _)))))))); exact rfl; exact rfl; exact (fun h_ => by cases h_); refine AOps.assign_pv rfl rfl rfl ?_; refine AOps.nilD ?_; refine AW.seq ?_; refine AW.seqR ?_; (conv => rhs; simp only [Nf.all, Nat.reduceBEq, Nat.reduceAdd, Nat.reduceSub]); refine AOps.load_ball rfl rfl rfl rfl rfl ?_; (conv => rhs; simp only [Nf.all, Nat.reduceBEq, Nat.reduceAdd, Nat.reduceSub]); refine AOps.load_ball rfl rfl rfl rfl rfl ?_; (conv => rhs; simp only [Nf.all, Nat.reduceBEq, Nat.reduceAdd, Nat.reduceSub]); (with_reducible apply AOps.call (s1)); (repeat (first | exact .nil | (refine .cons rfl ?_ ?_; (first | exact .pv _ | exact .own _ _ _ _ rfl | exact .nil _ | exact .any _ | exact .rptr _ | (refine .aggL ?_; repeat (first | exact .nil | (refine .cons ?_ ?_; (first | exact .pv _ | exact .own _ _ _ _ rfl | exact .nil _)))))))); exact rfl; exact rfl; exact (fun h_ => by cases h_); refine AOps.not rfl rfl rfl ?_; refine AOps.move_pv rfl rfl rfl ?_; refine AOps.guard_lt rfl rfl rfl rfl rfl rfl rfl ?_; refine AOps.load_ball rfl rfl rfl rfl rfl ?_; (conv => rhs; simp only [Nf.all, Nat.reduceBEq, Nat.reduceAdd, Nat.reduceSub]); refine AOps.guard_lt rfl rfl rfl rfl rfl rfl rfl ?_; refine AOps.load_ball rfl rfl rfl rfl rfl ?_; (conv => rhs; simp only [Nf.all, Nat.reduceBEq, Nat.reduceAdd, Nat.reduceSub]); refine AOps.guard_lt rfl rfl rfl rfl rfl rfl rfl ?_; (with_reducible apply AOps.call (v1)); (repeat (first | exact .nil | (refine .cons rfl ?_ ?_; (first | exact .pv _ | exact .own _ _ _ _ rfl | exact .nil _ | exact .any _ | exact .rptr _ | (refine .aggL ?_; repeat (first | exact .nil | (refine .cons ?_ ?_; (first | exact .pv _ | exact .own _ _ _ _ rfl | exact .nil _)))))))); exact rfl; exact rfl; exact (fun h_ => by cases h_); refine AOps.guard_lt rfl rfl rfl rfl rfl rfl rfl ?_; refine AOps.not rfl rfl rfl ?_; refine AOps.pick_lf rfl rfl rfl rfl rfl rfl ?_; refine AOps.nilD ?_; refine AW.cond_lf rfl rfl ?_; refine AW.skip ?_; refine thenD_n ?_; refine AW.seqR ?_; (conv => rhs; simp only [Nf.all, Nat.reduceBEq, Nat.reduceAdd, Nat.reduceSub]); refine AOps.move_pv rfl rfl rfl ?_; refine AOps.convI rfl rfl rfl rfl rfl (by omega) ?_; refine AOps.fieldAddrN 33 1 2 rfl rfl rfl rfl ?_; refine AOps.load_b1 rfl rfl rfl rfl rfl rfl ?_; refine AOps.len_map rfl rfl rfl rfl ?_; refine AOps.remE rfl rfl rfl rfl rfl (by omega) ?_; refine AOps.assign_pv rfl rfl rfl ?_; refine AOps.nilD ?_; refine AW.seq ?_; refine AW.regionM [0, 1, 2, 3, 4, 5, 6, 7, 8, 9, 10] [12] rfl (by assumption) (by kernel_rfl) (by kernel_rfl) rfl ?_; show AOps .held _ _ _ [_, _, _, _, _, _, _, _, _, _, _] _ _; refine AOps.fieldAddrN 33 0 0 rfl rfl rfl rfl ?_; refine AOps.fieldAddrN 30 0 0 rfl rfl rfl rfl ?_; refine AOps.load_b1 rfl rfl rfl rfl rfl rfl ?_; refine AOps.buildN 30 [0, 1] rfl rfl rfl rfl rfl rfl rfl rfl rfl ?_; (conv => rhs; simp only [Nf.all, Nat.reduceBEq, Nat.reduceAdd, Nat.reduceSub]); refine AOps.fieldAddrN 33 1 2 rfl rfl rfl rfl ?_; refine AOps.load_b1 rfl rfl rfl rfl rfl rfl ?_; refine AOps.move_pv rfl rfl rfl ?_; refine AOps.move_pv rfl rfl rfl ?_; refine AOps.add rfl rfl rfl rfl rfl (by omega) ?_; refine AOps.slice_ftI rfl rfl rfl rfl rfl rfl rfl rfl rfl (by omega) (by omega) (by omega) ?_; refine AOps.buildN 33 [0, 2] rfl rfl rfl rfl rfl rfl rfl rfl rfl ?_; (conv => rhs; simp only [Nf.all, Nat.reduceBEq, Nat.reduceAdd, Nat.reduceSub]); refine AOps.nil ?_; refine onlyN_n ?_; intro k_ hk_; refine AR.step1M (i := 11) rfl (by kernel_rfl) rfl ?_; intro g_ hgro_ hw_; refine AOps.allocN' rfl rfl rfl rfl ?_; (conv => rhs; simp only [Nf.all, Nat.reduceBEq, Nat.reduceAdd, Nat.reduceSub]); refine AOps.nil ?_; refine onlyN_n ?_; refine AR.step1LM (i := 12) rfl (by kernel_rfl) rfl (by kernel_rfl) ?_; intro g_ hgro_ hwt2_; refine AOps.store_bn rfl rfl rfl rfl rfl rfl rfl rfl rfl (by with_reducible assumption) ?_; (conv => rhs; simp only [Nf.all, Nat.reduceBEq, Nat.reduceAdd, Nat.reduceSub]); refine AOps.nil ?_; refine onlyN_n ?_; refine AR.doneM (by assumption) (by kernel_rfl) ?_; refine thenD_n ?_; refine AW.seq ?_; refine AW.regionM [0, 1, 2] [] rfl (by assumption) (by kernel_rfl) (by kernel_rfl) rfl ?_; show AOps .held _ _ _ [_, _, _] _ _; refine AOps.move_pv rfl rfl rfl ?_; refine AOps.move_pv rfl rfl rfl ?_; refine AOps.guard_lt rfl rfl rfl rfl rfl rfl rfl ?_; refine AOps.load_ball rfl rfl rfl rfl rfl ?_; (conv => rhs; simp only [Nf.all, Nat.reduceBEq, Nat.reduceAdd, Nat.reduceSub]); refine AOps.nil ?_; refine onlyN_n ?_; intro k_ hk_; refine AR.step1M (i := 3) rfl (by kernel_rfl) rfl ?_; intro g_ hgro_ hw_; refine AOps.guard_lt rfl rfl rfl rfl rfl rfl rfl ?_; (with_reducible apply AOps.call (l1)); (repeat (first | exact .nil | (refine .cons rfl ?_ ?_; (first | exact .pv _ | exact .own _ _ _ _ rfl | exact .nil _ | exact .any _ | exact .rptr _ | (refine .aggL ?_; repeat (first | exact .nil | (refine .cons ?_ ?_; (first | exact .pv _ | exact .own _ _ _ _ rfl | exact .nil _)))))))); exact rfl; exact rfl; exact (fun h_ => by cases h_); refine AOps.nil ?_; refine onlyN_n ?_; refine AR.readsM [4, 5, 6, 7] (by kernel_rfl) (by kernel_rfl) (by kernel_rfl) (by kernel_rfl) ?_; intro g_ hgro_; show AOps .held _ _ _ [_, _, _, _] _ _; refine AOps.pick_lt rfl rfl rfl rfl rfl rfl ?_; refine AOps.move_pv rfl rfl rfl ?_; refine AOps.guard_lt rfl rfl rfl rfl rfl rfl rfl ?_; refine AOps.load_ball rfl rfl rfl rfl rfl ?_; (conv => rhs; simp only [Nf.all, Nat.reduceBEq, Nat.reduceAdd, Nat.reduceSub]); refine AOps.guard_lt rfl rfl rfl rfl rfl rfl rfl ?_; refine AOps.load_ball rfl rfl rfl rfl rfl ?_; (conv => rhs; simp only [Nf.all, Nat.reduceBEq, Nat.reduceAdd, Nat.reduceSub]); refine AOps.nil ?_; refine onlyN_n ?_; intro k_ hk_; refine AR.step1M (i := 8) rfl (by kernel_rfl) rfl ?_; intro g_ hgro_ hw_; refine AOps.guard_lt rfl rfl rfl rfl rfl rfl rfl ?_; (with_reducible apply AOps.callp (ca)); (repeat (first | exact .nil | (refine .cons rfl ?_ ?_; (first | exact .pv _ | exact .own _ _ _ _ rfl | exact .nil _ | exact .any _ | exact .rptr _ | (refine .aggL ?_; repeat (first | exact .nil | (refine .cons ?_ ?_; (first | exact .pv _ | exact .own _ _ _ _ rfl | exact .nil _)))))))); exact rfl; refine AOps.nil ?_; refine onlyN_n ?_; refine AR.step1M (i := 9) rfl (by kernel_rfl) rfl ?_; intro g_ hgro_ hw_; refine AOps.guard_lt rfl rfl rfl rfl rfl rfl rfl ?_; (with_reducible apply AOps.call (v2)); (repeat (first | exact .nil | (refine .cons rfl ?_ ?_; (first | exact .pv _ | exact .own _ _ _ _ rfl | exact .nil _ | exact .any _ | exact .rptr _ | (refine .aggL ?_; repeat (first | exact .nil | (refine .cons ?_ ?_; (first | exact .pv _ | exact .own _ _ _ _ rfl | exact .nil _)))))))); exact rfl; exact rfl; exact (fun h_ => by cases h_); refine AOps.nil ?_; refine onlyN_n ?_; refine AR.readsM [10, 11, 12, 13] (by kernel_rfl) (by kernel_rfl) (by kernel_rfl) (by kernel_rfl) ?_; intro g_ hgro_; show AOps .held _ _ _ [_, _, _, _] _ _; refine AOps.pick_lt rfl rfl rfl rfl rfl rfl ?_; refine AOps.move_pv rfl rfl rfl ?_; refine AOps.guard_lt rfl rfl rfl rfl rfl rfl rfl ?_; refine AOps.load_ball rfl rfl rfl rfl rfl ?_; (conv => rhs; simp only [Nf.all, Nat.reduceBEq, Nat.reduceAdd, Nat.reduceSub]); refine AOps.guard_lt rfl rfl rfl rfl rfl rfl rfl ?_; refine AOps.load_ball rfl rfl rfl rfl rfl ?_; (conv => rhs; simp only [Nf.all, Nat.reduceBEq, Nat.reduceAdd, Nat.reduceSub]); refine AOps.nil ?_; refine onlyN_n ?_; intro k_ hk_; refine AR.step1M (i := 14) rfl (by kernel_rfl) rfl ?_; intro g_ hgro_ hw_; refine AOps.guard_lt rfl rfl rfl rfl rfl rfl rfl ?_; (with_reducible apply AOps.call (v3)); (repeat (first | exact .nil | (refine .cons rfl ?_ ?_; (first | exact .pv _ | exact .own _ _ _ _ rfl | exact .nil _ | exact .any _ | exact .rptr _ | (refine .aggL ?_; repeat (first | exact .nil | (refine .cons ?_ ?_; (first | exact .pv _ | exact .own _ _ _ _ rfl | exact .nil _)))))))); exact rfl; exact rfl; exact (fun h_ => by cases h_); refine AOps.nil ?_; refine onlyN_n ?_; refine AR.readsM [15, 16] (by kernel_rfl) (by kernel_rfl) (by kernel_rfl) (by kernel_rfl) ?_; intro g_ hgro_; show AOps .held _ _ _ [_, _] _ _; refine AOps.pick_lt rfl rfl rfl rfl rfl rfl ?_; refine AOps.assign_pv rfl rfl rfl ?_; refine AOps.nil ?_; refine onlyN_n ?_; intro k_ hk_; (conv => rhs; simp only [Nf.all, Nat.reduceBEq, Nat.reduceAdd, Nat.reduceSub]); refine AR.doneM (by assumption) (by kernel_rfl) ?_; refine thenD_n ?_; refine AW.ret ?_)
  (apply ends_ret; (exact Res.one (.tmp rfl rfl)); (refine Le.litB ?_; (rfl)))
end Go.Ab
