/- Chapter 07: model.Valid, walked over whatever contract universe.Full has at the specification's fields. -/
import Derived.Test.YtkejholhdmppmaaAkN
import Derived.Test.YtkejholhdmppmaaAbL2
import Derived.Test.YtkejholhdmppmaaAbL3
set_option linter.unusedSimpArgs false
set_option linter.unusedVariables false
namespace Go.Ab
open Go Go.Proofs
open Nat (reduceAdd reduceSub)
set_option maxRecDepth 20000
set_option maxHeartbeats 16000000
attribute [local irreducible] AW AOps thenD inBlockD AR iterEnds roundEndsN inlEnds noGotoD
theorem incrB_len {top : Int} : ∀ {l : List Int} {last : Int}, last < top → incrB top last l = true → (l.length : Int) < top - last
  | [], last, h, _ => by simp; omega
  | t :: l, last, _, h => by
    unfold incrB at h
    rw [Bool.and_eq_true, decide_eq_true_eq] at h
    have := incrB_len h.1.2 h.2
    simp only [List.length_cons]
    push_cast
    omega
theorem relOk_len {n : Int} {r : RelM} (h : relOk n r = true) : r.2.length ≤ 1728 := by
  unfold relOk at h
  rw [Bool.and_eq_true, decide_eq_true_eq] at h
  obtain ⟨⟨h1, h2, h3, h4⟩, h5⟩ := h
  have hb : n ^ r.1.toNat ≤ 1728 ∧ 0 ≤ n ^ r.1.toNat := by
    obtain ⟨k, rfl⟩ : ∃ k : Nat, n = k := ⟨n.toNat, by omega⟩
    have hk : k ≤ 12 := by omega
    have he : r.1.toNat ≤ 3 := by omega
    generalize r.1.toNat = e at he
    have h6 : k ^ e ≤ 12 ^ 3 := Nat.le_trans (Nat.pow_le_pow_left hk e) (Nat.pow_le_pow_right (by omega) he)
    rw [← Int.natCast_pow]
    constructor
    · exact_mod_cast h6
    · omega
  by_cases h7 : (-1 : Int) < n ^ r.1.toNat
  · have := incrB_len h7 h5
    omega
  · omega
def cellB (n : Int) (full : List Int → RelM) (f : FieldM) (r r0 : RelM) : Bool := decide (r.1 = f.sorts.length) && (relOk n r && (subL r.2 (full f.sorts).2 && (f.var || decide (r = r0))))
def cellsB (n : Int) (full : List Int → RelM) : List FieldM → List RelM → List RelM → Bool
  | f :: fs, r :: s, r0 :: s0 => cellB n full f r r0 && cellsB n full fs s s0
  | _, _, _ => true
theorem cellsB_drop {n : Int} {full : List Int → RelM} {fs : List FieldM} {s s0 : List RelM} {k : Nat} (h1 : k < fs.length) (h2 : k < s.length) (h3 : k < s0.length) :
    cellsB n full (fs.drop k) (s.drop k) (s0.drop k) = (cellB n full fs[k] s[k] s0[k] && cellsB n full (fs.drop (k + 1)) (s.drop (k + 1)) (s0.drop (k + 1))) := by
  rw [List.drop_eq_getElem_cons h1, List.drop_eq_getElem_cons h2, List.drop_eq_getElem_cons h3]; rfl
def stateB (n : Int) (full : List Int → RelM) (fs : List FieldM) (s0 s : List RelM) : Bool := decide (s.length = fs.length) && cellsB n full fs s s0
def fieldsB (k : Nat) (l : List FieldM) : Bool := l.all fun f => colsB k f.sorts
theorem fieldsB_drop {k : Nat} {l : List FieldM} {j : Nat} (hj : j < l.length) : fieldsB k (l.drop j) = (colsB k l[j].sorts && fieldsB k (l.drop (j + 1))) := by
  rw [List.drop_eq_getElem_cons hj]; rfl
def statesB (n : Int) (full : List Int → RelM) (fs : List FieldM) (s0 : List RelM) (l : List (List RelM)) : Bool := l.all (stateB n full fs s0)
theorem statesB_drop {n : Int} {full : List Int → RelM} {fs : List FieldM} {s0 : List RelM} {l : List (List RelM)} {j : Nat} (hj : j < l.length) : statesB n full fs s0 (l.drop j) = (stateB n full fs s0 l[j] && statesB n full fs s0 (l.drop (j + 1))) := by
  rw [List.drop_eq_getElem_cons hj]; rfl
def shapeB (m : ModM) : Bool := decide ((m.states.length : Int) = m.steps ∧ 0 ≤ m.loop ∧ m.loop < m.states.length)
def validB (full : List Int → RelM) (s : SpecM) (m : ModM) : Bool :=
  scopeOk s.sorts.length m.atoms m.steps && (shapeB m && (fieldsB s.sorts.length s.fields && statesB m.atoms.sum full s.fields (m.states.headD []) m.states))
theorem scopeOk_spec {k : Nat} {at' : List Int} {st : Int} (h : scopeOk k at' st = true) : k ≤ 4 ∧ at'.length = k ∧ 1 ≤ st ∧ st ≤ 4 ∧ sizesOk at' = true ∧ at'.sum ≤ 12 ∧ SmA at' := by
  unfold scopeOk at h
  simp only [Bool.and_eq_true, decide_eq_true_eq] at h
  obtain ⟨⟨⟨h1, h2, h3, h4⟩, h5⟩, h6⟩ := h
  exact ⟨h1, h2, h3, h4, h5, h6, sizesOk_sm h5 (by omega)⟩
theorem valid_fn (full : List Int → RelM) (s : SpecM) (m : ModM) (hfs : s.fields.length ≤ 1000)
    (hfull : scopeOk s.sorts.length m.atoms m.steps = true → ∀ f ∈ s.fields, colsB s.sorts.length f.sorts = true → (full f.sorts).2.length ≤ 1000000 ∧ Fn Try.prog 24 [scp m.atoms m.steps, .pv (ints f.sorts)] (relA (full f.sorts))) :
    Fn Try.prog 6 [spc s, mdl m] (litB (validB full s m)) := by
  obtain ⟨so, fs, p, q⟩ := s
  obtain ⟨at', st, ss, lp⟩ := m
  simp only at hfs hfull ⊢
  unfold validB
  simp only
  have hu := uValid_fn ⟨so, fs, p, q⟩ at' st
  simp only at hu
  cases hsc : scopeOk so.length at' st with
  | false =>
    rw [hsc] at hu
    rw [Bool.false_and]
    refine Fn.enter (n := 119) Try.func6 rfl rfl rfl rfl rfl (by decide) fun g hro_ hwt_ => ?_; (try (conv => rhs; simp only [Nf.all, Nat.reduceBEq, reduceAdd, reduceSub]))
    (refine zq ?_; refine AOps.box rfl rfl rfl rfl ?_; (conv => rhs; simp only [Nf.all, Nat.reduceBEq, reduceAdd, reduceSub]); refine AOps.box rfl rfl rfl rfl ?_; (conv => rhs; simp only [Nf.all, Nat.reduceBEq, reduceAdd, reduceSub]); refine za ?_; refine zd ?_; refine zo ?_; refine zq ?_; (conv => rhs; simp only [Nf.all, Nat.reduceBEq, reduceAdd, reduceSub]); refine AOps.load_ball rfl rfl rfl rfl rfl ?_; (conv => rhs; simp only [Nf.all, Nat.reduceBEq, reduceAdd, reduceSub]); refine AOps.fieldAddrN 33 0 0 rfl rfl rfl rfl ?_; (with_reducible apply AOps.load_bs); (iterate 3 exact rfl); (repeat' first | exact Sub.nil | apply Sub.take | apply Sub.skip); (iterate 3 exact rfl); refine AOps.call (hu) (.cons rfl (.aggL (.cons (.pv _) (.cons (.pv _) (.cons (.pv _) (.cons (.pv _) .nil))))) (.cons rfl (.aggL (.cons (.pv _) (.cons (.pv _) .nil))) .nil)) rfl rfl (fun h_ => by cases h_) ?_; refine AOps.not rfl rfl rfl ?_; refine zm ?_; (iterate 7 refine AOps.guard_lf rfl rfl rfl rfl rfl rfl rfl ?_); refine AOps.pick_lt rfl rfl rfl rfl rfl rfl ?_; refine zm ?_; (iterate 3 refine AOps.guard_lf rfl rfl rfl rfl rfl rfl rfl ?_); refine AOps.pick_lt rfl rfl rfl rfl rfl rfl ?_; refine zm ?_; (iterate 6 refine AOps.guard_lf rfl rfl rfl rfl rfl rfl rfl ?_); refine AOps.pick_lt rfl rfl rfl rfl rfl rfl ?_; refine zd ?_; refine AW.cond_lt rfl rfl ?_; refine zq ?_; (conv => rhs; simp only [Nf.all, Nat.reduceBEq, reduceAdd, reduceSub]); refine za ?_; refine zd ?_; refine AW.ret ?_; refine thenD_ret ?_)
    (apply ends_ret; (exact Res.one (.tmp rfl rfl)); (refine Le.litB ?_; (rfl)))
  | true =>
  rw [hsc] at hu
  rw [Bool.true_and]
  have hfull := hfull hsc
  obtain ⟨hs1, hs2, hs3, hs4, hs5, hs6, hsm⟩ := scopeOk_spec hsc
  clear hsc
  have hss := hsm.take at'.length
  rw [List.take_length] at hss
  have ha := atoms_fn at' st hsm
  generalize hn : at'.sum = n at ha hs6 hss ⊢
  by_cases h1 : (ss.length : Int) = st ∧ 0 ≤ lp ∧ lp < ss.length
  · have e1 : shapeB ⟨at', st, ss, lp⟩ = true := decide_eq_true h1
    obtain ⟨h11, h12, h13⟩ := h1
    rw [e1, Bool.true_and]
    clear e1
    refine Fn.enter (n := 119) Try.func6 rfl rfl rfl rfl rfl (by decide) fun g hro_ hwt_ => ?_; (try (conv => rhs; simp only [Nf.all, Nat.reduceBEq, reduceAdd, reduceSub]))
    (refine zq ?_; refine AOps.box rfl rfl rfl rfl ?_; (conv => rhs; simp only [Nf.all, Nat.reduceBEq, reduceAdd, reduceSub]); refine AOps.box rfl rfl rfl rfl ?_; (conv => rhs; simp only [Nf.all, Nat.reduceBEq, reduceAdd, reduceSub]); refine za ?_; refine zd ?_; refine zo ?_; refine zq ?_; (conv => rhs; simp only [Nf.all, Nat.reduceBEq, reduceAdd, reduceSub]); refine AOps.load_ball rfl rfl rfl rfl rfl ?_; (conv => rhs; simp only [Nf.all, Nat.reduceBEq, reduceAdd, reduceSub]); refine AOps.fieldAddrN 33 0 0 rfl rfl rfl rfl ?_; (with_reducible apply AOps.load_bs); (iterate 3 exact rfl); (repeat' first | exact Sub.nil | apply Sub.take | apply Sub.skip); (iterate 3 exact rfl); refine AOps.call (hu) (.cons rfl (.aggL (.cons (.pv _) (.cons (.pv _) (.cons (.pv _) (.cons (.pv _) .nil))))) (.cons rfl (.aggL (.cons (.pv _) (.cons (.pv _) .nil))) .nil)) rfl rfl (fun h_ => by cases h_) ?_; refine AOps.not rfl rfl rfl ?_; refine zm ?_; refine zl ?_; refine AOps.fieldAddrN 33 1 2 rfl rfl rfl rfl ?_; refine zl ?_; refine zb ?_; refine zl ?_; refine zn ?_; refine zl ?_; refine AOps.fieldAddrN 33 0 0 rfl rfl rfl rfl ?_; refine zl ?_; refine AOps.fieldAddrN 30 1 1 rfl rfl rfl rfl ?_; refine zl ?_; refine zb ?_; refine zl ?_; refine AOps.neq rfl rfl rfl rfl rfl ?_; refine AOps.pick_lf rfl rfl rfl rfl rfl rfl ?_; refine zm ?_; refine zy ?_; refine AOps.fieldAddrN 33 2 3 rfl rfl rfl rfl ?_; refine zy ?_; refine zb ?_; refine zy ?_; refine zs ?_; refine AOps.pickF_pv rfl rfl (by first | omega | decide) rfl rfl rfl rfl ?_; refine zm ?_; refine zy ?_; refine AOps.fieldAddrN 33 2 3 rfl rfl rfl rfl ?_; refine zy ?_; refine zb ?_; refine zy ?_; refine AOps.fieldAddrN 33 1 2 rfl rfl rfl rfl ?_; refine zy ?_; refine zb ?_; refine zy ?_; refine zn ?_; refine zy ?_; refine AOps.geq rfl rfl rfl rfl rfl ?_; refine AOps.pickF_pv rfl rfl (by first | omega | decide) rfl rfl rfl rfl ?_; refine zd ?_; refine zk ?_; refine AW.skip ?_; refine thenD_n ?_; refine zq ?_; (conv => rhs; simp only [Nf.all, Nat.reduceBEq, reduceAdd, reduceSub]); refine AOps.fieldAddrN 33 0 0 rfl rfl rfl rfl ?_; (with_reducible apply AOps.load_bs); (iterate 3 exact rfl); (repeat' first | exact Sub.nil | apply Sub.take | apply Sub.skip); (iterate 3 exact rfl); refine AOps.call (ha) (.cons rfl (.aggL (.cons (.pv _) (.cons (.pv _) .nil))) .nil) rfl rfl (fun h_ => by cases h_) ?_; refine za ?_; refine zd ?_; refine zo ?_; refine zq ?_; (conv => rhs; simp only [Nf.all, Nat.reduceBEq, reduceAdd, reduceSub]); refine AOps.fieldAddrN 27 1 1 rfl rfl rfl rfl ?_; refine zb ?_; refine zn ?_; refine zm ?_; refine zd ?_; refine AW.block ?_)
    refine AW.loop (fun (k : Nat) => { n := 119, env := [(2, .ptr 0 0), (3, .ptr 1 0), (5, litI n), (44, .pv (.slice 3 (fs.map encF))), (45, litI fs.length), (46, litI k)], objs := [(0, some (.box [.pv (.slice 2 (so.map encSo)), .pv (.slice 3 (fs.map encF)), slv p, slv q])), (1, some (.box [.pv (ints at'), litI st, .pv (stts ss), litI lp]))], nx := 2 }) (fun k => k ≤ fs.length ∧ fieldsB so.length fs = fieldsB so.length (fs.drop k) ∧ ∀ i (h : i < k) (h' : i < fs.length), colsB so.length fs[i].sorts = true) (fun k => fs.length - k) 0 ?_ ?_ ?_
    · exact ⟨Nat.zero_le _, rfl, fun i h => absurd h (Nat.not_lt_zero _)⟩
    · exact weak rfl (by (first | (refine ⟨.eq rfl rfl, ?_⟩; (iterate 9 refine ⟨.eq rfl rfl, ?_⟩); exact trivial) | (refine ⟨.eq rfl rfl, ?_⟩; (iterate 5 refine ⟨.eq rfl rfl, ?_⟩); exact trivial))) (by (refine ⟨.box _ rfl ?_, ?_⟩; (iterate 4 refine ⟨.eq rfl rfl, ?_⟩); exact trivial; refine ⟨.box _ rfl ?_, ?_⟩; (iterate 4 refine ⟨.eq rfl rfl, ?_⟩); (iterate 2 exact trivial))) rfl
    rintro k ⟨hk, he, hok⟩
    by_cases hlt : k < fs.length
    · rw [fieldsB_drop hlt] at he
      have hc := columns_fn ⟨so, fs, p, q⟩ fs[k]
      simp only at hc
      cases h2 : colsB so.length fs[k].sorts with
      | true =>
        rw [h2] at hc
        rw [h2, Bool.true_and] at he
        (refine zq ?_; refine zs ?_; refine zd ?_; refine zo ?_; refine zc ?_; refine AW.skip ?_; refine thenD_n ?_; refine zo ?_; refine AW.block ?_; refine zq ?_; (conv => rhs; simp only [Nf.all, Nat.reduceBEq, reduceAdd, reduceSub]); (focus ((with_reducible apply AOps.index_map); (iterate 7 exact rfl); rotate_left; omega)); refine AOps.load_rn rfl rfl rfl rfl ?_; (conv => rhs; simp only [Nf.all, Nat.reduceBEq, reduceAdd, reduceSub]); refine AOps.allocN' rfl rfl rfl rfl ?_; (conv => rhs; simp only [Nf.all, Nat.reduceBEq, reduceAdd, reduceSub]); refine AOps.store_bn rfl rfl rfl rfl rfl rfl rfl rfl rfl (by with_reducible assumption) ?_; (conv => rhs; simp only [Nf.all, Nat.reduceBEq, reduceAdd, reduceSub]); refine zd ?_; refine zq ?_; refine AOps.load_ball rfl rfl rfl rfl rfl ?_; (conv => rhs; simp only [Nf.all, Nat.reduceBEq, reduceAdd, reduceSub]); refine AOps.load_ball rfl rfl rfl rfl rfl ?_; (conv => rhs; simp only [Nf.all, Nat.reduceBEq, reduceAdd, reduceSub]); refine AOps.call (hc) (.cons rfl (.aggL (.cons (.pv _) (.cons (.pv _) (.cons (.pv _) (.cons (.pv _) .nil))))) (.cons rfl (.aggL (.cons (.pv _) (.cons (.pv _) (.cons (.pv _) .nil)))) .nil)) rfl rfl (fun h_ => by cases h_) ?_; refine AOps.not rfl rfl rfl ?_; refine zd ?_; refine AW.cond_lf rfl rfl ?_; refine AW.skip ?_; refine inBlockD_n ?_; refine thenD_n ?_; refine AW.region ?_; (conv => rhs; simp only [Nf.all, Nat.reduceBEq, reduceAdd, reduceSub]); refine AOps.add rfl rfl rfl rfl rfl (by omega) ?_; refine zm ?_; refine zd ?_)
        exact ⟨k + 1, ⟨by omega, he, fun i hi h' => by rcases Nat.lt_or_eq_of_le (Nat.le_of_lt_succ hi) with h | rfl; exact hok i h h'; exact h2⟩, by omega, weak rfl (by (first | (refine ⟨.eq rfl rfl, ?_⟩; (iterate 9 refine ⟨.eq rfl rfl, ?_⟩); exact trivial) | (refine ⟨.eq rfl rfl, ?_⟩; (iterate 5 refine ⟨.eq rfl rfl, ?_⟩); exact trivial))) (by (refine ⟨.box _ rfl ?_, ?_⟩; (iterate 4 refine ⟨.eq rfl rfl, ?_⟩); exact trivial; refine ⟨.box _ rfl ?_, ?_⟩; (iterate 4 refine ⟨.eq rfl rfl, ?_⟩); (iterate 2 exact trivial))) rfl⟩
      | false =>
        rw [h2] at hc
        rw [h2, Bool.false_and] at he
        rw [he, Bool.false_and]
        (refine zq ?_; refine zs ?_; refine zd ?_; refine zo ?_; refine zc ?_; refine AW.skip ?_; refine thenD_n ?_; refine zo ?_; refine AW.block ?_; refine zq ?_; (conv => rhs; simp only [Nf.all, Nat.reduceBEq, reduceAdd, reduceSub]); (focus ((with_reducible apply AOps.index_map); (iterate 7 exact rfl); rotate_left; omega)); refine AOps.load_rn rfl rfl rfl rfl ?_; (conv => rhs; simp only [Nf.all, Nat.reduceBEq, reduceAdd, reduceSub]); refine AOps.allocN' rfl rfl rfl rfl ?_; (conv => rhs; simp only [Nf.all, Nat.reduceBEq, reduceAdd, reduceSub]); refine AOps.store_bn rfl rfl rfl rfl rfl rfl rfl rfl rfl (by with_reducible assumption) ?_; (conv => rhs; simp only [Nf.all, Nat.reduceBEq, reduceAdd, reduceSub]); refine zd ?_; refine zq ?_; refine AOps.load_ball rfl rfl rfl rfl rfl ?_; (conv => rhs; simp only [Nf.all, Nat.reduceBEq, reduceAdd, reduceSub]); refine AOps.load_ball rfl rfl rfl rfl rfl ?_; (conv => rhs; simp only [Nf.all, Nat.reduceBEq, reduceAdd, reduceSub]); refine AOps.call (hc) (.cons rfl (.aggL (.cons (.pv _) (.cons (.pv _) (.cons (.pv _) (.cons (.pv _) .nil))))) (.cons rfl (.aggL (.cons (.pv _) (.cons (.pv _) (.cons (.pv _) .nil)))) .nil)) rfl rfl (fun h_ => by cases h_) ?_; refine AOps.not rfl rfl rfl ?_; refine zd ?_; refine AW.cond_lt rfl rfl ?_; refine zq ?_; (conv => rhs; simp only [Nf.all, Nat.reduceBEq, reduceAdd, reduceSub]); refine za ?_; refine zd ?_; refine AW.ret ?_; refine inBlockD_ret ?_; (iterate 2 refine thenD_ret ?_); refine inBlockD_ret ?_; refine thenD_ret ?_)
        (apply ends_ret; (exact Res.one (.tmp rfl rfl)); (refine Le.litB ?_; (rfl)))
    · obtain rfl : k = fs.length := by omega
      rw [List.drop_length] at he
      have he : fieldsB so.length fs = true := he
      rw [he, Bool.true_and]
      clear he
      have hc : ∀ i (h' : i < fs.length), colsB so.length fs[i].sorts = true := fun i h' => hok i h' h'
      (refine zq ?_; refine zs ?_; refine zd ?_; refine zo ?_; refine zk ?_; refine AW.exit ?_; (iterate 2 refine thenD_exit ?_); refine inBlockD_exit ?_; refine thenD_n ?_; refine zo ?_; refine zq ?_; (conv => rhs; simp only [Nf.all, Nat.reduceBEq, reduceAdd, reduceSub]); refine AOps.fieldAddrN 33 1 2 rfl rfl rfl rfl ?_; refine zb ?_; refine zn ?_; refine zm ?_; refine zd ?_; refine AW.block ?_)
      have h00 : 0 < ss.length := by omega
      have e0 : ss.headD [] = ss[Int.toNat 0]'(by show 0 < _; omega) := by cases ss with | nil => simp at h00 | cons a l => rfl
      rw [e0]
      refine AW.loop (fun (j : Nat) => { n := 119, env := [(2, .ptr 0 0), (3, .ptr 1 0), (5, litI n), (56, .pv (stts ss)), (57, litI ss.length), (58, litI j)], objs := [(0, some (.box [.pv (.slice 2 (so.map encSo)), .pv (.slice 3 (fs.map encF)), slv p, slv q])), (1, some (.box [.pv (ints at'), litI st, .pv (stts ss), litI lp]))], nx := 2 }) (fun j => j ≤ ss.length ∧ statesB n full fs (ss[Int.toNat 0]'(by show 0 < _; omega)) ss = statesB n full fs (ss[Int.toNat 0]'(by show 0 < _; omega)) (ss.drop j) ∧ (0 < j → (ss[Int.toNat 0]'(by show 0 < _; omega)).length = fs.length)) (fun j => ss.length - j) 0 ?_ ?_ ?_
      · exact ⟨Nat.zero_le _, rfl, fun h => absurd h (by omega)⟩
      · exact weak rfl (by (first | (refine ⟨.eq rfl rfl, ?_⟩; (iterate 9 refine ⟨.eq rfl rfl, ?_⟩); exact trivial) | (refine ⟨.eq rfl rfl, ?_⟩; (iterate 5 refine ⟨.eq rfl rfl, ?_⟩); exact trivial))) (by (refine ⟨.box _ rfl ?_, ?_⟩; (iterate 4 refine ⟨.eq rfl rfl, ?_⟩); exact trivial; refine ⟨.box _ rfl ?_, ?_⟩; (iterate 4 refine ⟨.eq rfl rfl, ?_⟩); (iterate 2 exact trivial))) rfl
      rintro j ⟨hj, he, hlen0⟩
      by_cases hlt2 : j < ss.length
      · rw [statesB_drop hlt2] at he
        by_cases hsl : ss[j].length = fs.length
        · have hlen0 : (ss[Int.toNat 0]'(by show 0 < _; omega)).length = fs.length := by
            by_cases hj0 : 0 < j
            · exact hlen0 hj0
            · obtain rfl : j = 0 := by omega
              exact hsl
          have es : stateB n full fs (ss[Int.toNat 0]'(by show 0 < _; omega)) ss[j] = cellsB n full fs ss[j] (ss[Int.toNat 0]'(by show 0 < _; omega)) := by unfold stateB; rw [decide_eq_true hsl, Bool.true_and]
          rw [es] at he
          (refine zq ?_; refine zs ?_; refine zd ?_; refine zo ?_; refine zc ?_; refine AW.skip ?_; refine thenD_n ?_; refine zo ?_; refine AW.block ?_; refine zq ?_; (conv => rhs; simp only [Nf.all, Nat.reduceBEq, reduceAdd, reduceSub]); (focus ((with_reducible apply AOps.index_map); (iterate 7 exact rfl); rotate_left; omega)); refine zr ?_; refine za ?_; refine zd ?_; refine zo ?_; refine zq ?_; (conv => rhs; simp only [Nf.all, Nat.reduceBEq, reduceAdd, reduceSub]); refine zm ?_; refine zn ?_; refine AOps.fieldAddrN 27 1 1 rfl rfl rfl rfl ?_; refine zb ?_; refine zn ?_; refine AOps.neq rfl rfl rfl rfl rfl ?_; refine zd ?_; refine zk ?_; refine AW.skip ?_; refine thenD_n ?_; refine zq ?_; (conv => rhs; simp only [Nf.all, Nat.reduceBEq, reduceAdd, reduceSub]); refine AOps.fieldAddrN 27 1 1 rfl rfl rfl rfl ?_; refine zb ?_; refine zn ?_; refine zm ?_; refine zd ?_; refine AW.block ?_)
          refine AW.loop (fun (i : Nat) => { n := 119, env := [(2, .ptr 0 0), (3, .ptr 1 0), (5, litI n), (9, .pv (rels ss[j])), (56, .pv (stts ss)), (57, litI ss.length), (58, litI j), (69, .pv (.slice 3 (fs.map encF))), (70, litI fs.length), (71, litI i)], objs := [(0, some (.box [.pv (.slice 2 (so.map encSo)), .pv (.slice 3 (fs.map encF)), slv p, slv q])), (1, some (.box [.pv (ints at'), litI st, .pv (stts ss), litI lp]))], nx := 2 }) (fun i => i ≤ fs.length ∧ cellsB n full fs ss[j] (ss[Int.toNat 0]'(by show 0 < _; omega)) = cellsB n full (fs.drop i) (ss[j].drop i) ((ss[Int.toNat 0]'(by show 0 < _; omega)).drop i)) (fun i => fs.length - i) 0 ?_ ?_ ?_
          · exact ⟨Nat.zero_le _, rfl⟩
          · exact weak rfl (by (first | (refine ⟨.eq rfl rfl, ?_⟩; (iterate 9 refine ⟨.eq rfl rfl, ?_⟩); exact trivial) | (refine ⟨.eq rfl rfl, ?_⟩; (iterate 5 refine ⟨.eq rfl rfl, ?_⟩); exact trivial))) (by (refine ⟨.box _ rfl ?_, ?_⟩; (iterate 4 refine ⟨.eq rfl rfl, ?_⟩); exact trivial; refine ⟨.box _ rfl ?_, ?_⟩; (iterate 4 refine ⟨.eq rfl rfl, ?_⟩); (iterate 2 exact trivial))) rfl
          rintro i ⟨hi, hce⟩
          by_cases hlt3 : i < fs.length
          · rw [cellsB_drop hlt3 (by omega) (by omega)] at hce
            have hcf := hfull _ (List.getElem_mem hlt3) (hc i hlt3)
            have hlt4 : i < ss[j].length := by omega
            have hlt5 : i < (ss[Int.toNat 0]'(by show 0 < _; omega)).length := by omega
            have hlt6 : i < (ss[0]'(by omega)).length := hlt5
            have hrv := relValid_fn n ss[j][i]
            unfold cellB at hce
            by_cases h2 : (ss[j][i]).1 = fs[i].sorts.length
            · rw [decide_eq_true h2, Bool.true_and] at hce
              cases h3 : relOk n ss[j][i] with
              | false =>
                rw [h3] at hrv hce
                rw [Bool.false_and, Bool.false_and] at hce
                rw [hce, Bool.false_and] at he
                (refine zq ?_; refine zs ?_; refine zd ?_; refine zo ?_; refine zc ?_; refine AW.skip ?_; refine thenD_n ?_; refine zo ?_; refine AW.block ?_; refine zq ?_; (conv => rhs; simp only [Nf.all, Nat.reduceBEq, reduceAdd, reduceSub]); refine zm ?_; (focus ((with_reducible apply AOps.index_map); (iterate 7 exact rfl); rotate_left; omega)); refine AOps.load_rn rfl rfl rfl rfl ?_; (conv => rhs; simp only [Nf.all, Nat.reduceBEq, reduceAdd, reduceSub]); refine AOps.allocN' rfl rfl rfl rfl ?_; (conv => rhs; simp only [Nf.all, Nat.reduceBEq, reduceAdd, reduceSub]); refine za ?_; refine AOps.store_bn rfl rfl rfl rfl rfl rfl rfl rfl rfl (by with_reducible assumption) ?_; (conv => rhs; simp only [Nf.all, Nat.reduceBEq, reduceAdd, reduceSub]); refine zd ?_; refine zq ?_; (iterate 2 refine zm ?_); (focus ((with_reducible apply AOps.index_map); (iterate 7 exact rfl); rotate_left; omega)); refine AOps.load_rn rfl rfl rfl rfl ?_; (conv => rhs; simp only [Nf.all, Nat.reduceBEq, reduceAdd, reduceSub]); refine AOps.allocN' rfl rfl rfl rfl ?_; (conv => rhs; simp only [Nf.all, Nat.reduceBEq, reduceAdd, reduceSub]); refine AOps.store_bn rfl rfl rfl rfl rfl rfl rfl rfl rfl (by with_reducible assumption) ?_; (conv => rhs; simp only [Nf.all, Nat.reduceBEq, reduceAdd, reduceSub]); refine zd ?_; (iterate 2 refine zo ?_); refine AW.regionQ rfl rfl (by kernel_rfl) (by with_reducible assumption) ?_; refine AOps.fieldAddrN 42 0 0 rfl rfl rfl rfl ?_; refine zb ?_; refine AOps.fieldAddrN 40 1 1 rfl rfl rfl rfl ?_; refine zb ?_; refine zn ?_; refine AOps.neq rfl rfl rfl rfl rfl ?_; refine zm ?_; refine zy ?_; refine zm ?_; refine zy ?_; refine AOps.load_ball rfl rfl rfl rfl rfl ?_; (conv => rhs; simp only [Nf.all, Nat.reduceBEq, reduceAdd, reduceSub]); refine zy ?_; refine AOps.call (hrv) (.cons rfl (.pv _) (.cons rfl (.aggL (.cons (.pv _) (.cons (.pv _) .nil))) .nil)) rfl rfl (fun h_ => by cases h_) ?_; refine zy ?_; refine AOps.not rfl rfl rfl ?_; refine AOps.pickF_pv rfl rfl (by first | omega | decide) rfl rfl rfl rfl ?_; refine zm ?_; (iterate 8 refine AOps.guard_lf rfl rfl rfl rfl rfl rfl rfl ?_); refine AOps.pick_lt rfl rfl rfl rfl rfl rfl ?_; refine zd ?_; refine AW.cond_lt rfl rfl ?_; refine zq ?_; (conv => rhs; simp only [Nf.all, Nat.reduceBEq, reduceAdd, reduceSub]); refine za ?_; refine zd ?_; refine AW.ret ?_; refine thenD_ret ?_; refine inBlockD_ret ?_; (iterate 2 refine thenD_ret ?_); (iterate 2 refine inBlockD_ret ?_); (iterate 2 refine thenD_ret ?_); refine inBlockD_ret ?_; refine thenD_ret ?_)
                (apply ends_ret; (exact Res.one (.tmp rfl rfl)); (refine Le.litB ?_; (exact he.symm)))
              | true =>
                rw [h3] at hrv hce
                rw [Bool.true_and] at hce
                have hin := in_fn (ss[j][i]).1 (ss[j][i]).2 (full fs[i].sorts).1 (full fs[i].sorts).2 (by have := relOk_len h3; omega) hcf.1
                have hcf := hcf.2
                cases h4 : subL ss[j][i].2 (full fs[i].sorts).2 with
                | false =>
                  rw [h4] at hin hce
                  rw [Bool.false_and, Bool.false_and] at hce
                  rw [hce, Bool.false_and] at he
                  (refine zq ?_; refine zs ?_; refine zd ?_; refine zo ?_; refine zc ?_; refine AW.skip ?_; refine thenD_n ?_; refine zo ?_; refine AW.block ?_; refine zq ?_; (conv => rhs; simp only [Nf.all, Nat.reduceBEq, reduceAdd, reduceSub]); refine zm ?_; (focus ((with_reducible apply AOps.index_map); (iterate 7 exact rfl); rotate_left; omega)); refine AOps.load_rn rfl rfl rfl rfl ?_; (conv => rhs; simp only [Nf.all, Nat.reduceBEq, reduceAdd, reduceSub]); refine AOps.allocN' rfl rfl rfl rfl ?_; (conv => rhs; simp only [Nf.all, Nat.reduceBEq, reduceAdd, reduceSub]); refine za ?_; refine AOps.store_bn rfl rfl rfl rfl rfl rfl rfl rfl rfl (by with_reducible assumption) ?_; (conv => rhs; simp only [Nf.all, Nat.reduceBEq, reduceAdd, reduceSub]); refine zd ?_; refine zq ?_; (iterate 2 refine zm ?_); (focus ((with_reducible apply AOps.index_map); (iterate 7 exact rfl); rotate_left; omega)); refine AOps.load_rn rfl rfl rfl rfl ?_; (conv => rhs; simp only [Nf.all, Nat.reduceBEq, reduceAdd, reduceSub]); refine AOps.allocN' rfl rfl rfl rfl ?_; (conv => rhs; simp only [Nf.all, Nat.reduceBEq, reduceAdd, reduceSub]); refine AOps.store_bn rfl rfl rfl rfl rfl rfl rfl rfl rfl (by with_reducible assumption) ?_; (conv => rhs; simp only [Nf.all, Nat.reduceBEq, reduceAdd, reduceSub]); refine zd ?_; (iterate 2 refine zo ?_))
                  refine AW.regionE [0,1,2,3,4,5,6,7,8] [19] rfl (by assumption) (by kernel_rfl) rfl ?_
                  show AOps .held _ _ _ [_, _, _, _, _, _, _, _, _] _ _
                  (refine AOps.fieldAddrN 42 0 0 rfl rfl rfl rfl ?_; refine zb ?_; refine AOps.fieldAddrN 40 1 1 rfl rfl rfl rfl ?_; refine zb ?_; refine zn ?_; refine AOps.neq rfl rfl rfl rfl rfl ?_; refine zm ?_; refine zy ?_; refine zm ?_; refine zy ?_; refine AOps.load_ball rfl rfl rfl rfl rfl ?_; (conv => rhs; simp only [Nf.all, Nat.reduceBEq, reduceAdd, reduceSub]); refine AOps.nil ?_; refine onlyN_n ?_)
                  intro k_ hk_
                  (try (conv => rhs; simp only [Nf.all, Nat.reduceBEq, reduceAdd, reduceSub]))
                  refine AR.step1 (i := 9) rfl (by kernel_rfl) rfl ?_
                  intro g_ hgro_ hw_
                  
                  (refine zy ?_; refine AOps.call (hrv) (.cons rfl (.pv _) (.cons rfl (.aggL (.cons (.pv _) (.cons (.pv _) .nil))) .nil)) rfl rfl (fun h_ => by cases h_) ?_; refine AOps.nil ?_; refine onlyN_n ?_)
                  refine AR.step1 (i := 10) rfl (by kernel_rfl) rfl ?_
                  intro g_ hgro_ hw_
                  (refine zy ?_; refine AOps.not rfl rfl rfl ?_; refine AOps.nil ?_; refine onlyN_n ?_)
                  refine AR.step1 (i := 11) rfl (by kernel_rfl) rfl ?_
                  intro g_ hgro_ hw_
                  (refine AOps.pickF_pv rfl rfl (by first | omega | decide) rfl rfl rfl rfl ?_; refine AOps.nil ?_; refine onlyN_n ?_)
                  refine AR.step1 (i := 12) rfl (by kernel_rfl) rfl ?_
                  intro g_ hgro_ hw_
                  (refine zm ?_; refine AOps.nil ?_; refine onlyN_n ?_)
                  refine AR.reads [13,14,16,15,17] (by kernel_rfl) (by kernel_rfl) (by kernel_rfl) ?_
                  intro g_ hgro_
                  show AOps .held _ _ _ [_, _, _, _, _] _ _
                  (refine zl ?_; refine AOps.load_ball rfl rfl rfl rfl rfl ?_; (conv => rhs; simp only [Nf.all, Nat.reduceBEq, reduceAdd, reduceSub]); refine zl ?_; refine AOps.fieldAddrN 33 0 0 rfl rfl rfl rfl ?_; refine zl ?_; refine AOps.fieldAddrN 40 1 1 rfl rfl rfl rfl ?_; refine zl ?_; (with_reducible apply AOps.load_bs); (iterate 3 exact rfl); (repeat' first | exact Sub.nil | apply Sub.take | apply Sub.skip); (iterate 3 exact rfl); refine zl ?_; refine zb ?_; refine AOps.nil ?_; refine onlyN_n ?_)
                  intro k_ hk_
                  (try (conv => rhs; simp only [Nf.all, Nat.reduceBEq, reduceAdd, reduceSub]))
                  refine AR.step1 (i := 18) rfl (by kernel_rfl) rfl ?_
                  intro g_ hgro_ hw_
                  
                  (refine zl ?_; refine AOps.callp (hcf) (.cons rfl (.aggL (.cons (.pv _) (.cons (.pv _) .nil))) (.cons rfl (.pv _) .nil)) rfl ?_; refine AOps.nil ?_; refine onlyN_n ?_)
                  refine AR.step1L (i := 19) rfl (by kernel_rfl) rfl (by kernel_rfl) ?_
                  intro g_ hgro_ hwt2_
                  (refine zl ?_; refine AOps.call (hin) (.cons rfl (.aggL (.cons (.pv _) (.cons (.pv _) .nil))) (.cons rfl (.aggL (.cons (.pv _) (.cons (.pv _) .nil))) .nil)) rfl rfl (fun h_ => by cases h_) ?_; refine AOps.nil ?_; refine onlyN_n ?_)
                  refine AR.step1L (i := 20) rfl (by kernel_rfl) rfl (by kernel_rfl) ?_
                  intro g_ hgro_ hwt2_
                  (refine zl ?_; refine AOps.not rfl rfl rfl ?_; refine AOps.nil ?_; refine onlyN_n ?_)
                  refine AR.step1L (i := 21) rfl (by kernel_rfl) rfl (by kernel_rfl) ?_
                  intro g_ hgro_ hwt2_
                  (refine AOps.pick_lf rfl rfl rfl rfl rfl rfl ?_; refine AOps.nil ?_; refine onlyN_n ?_)
                  refine AR.done (by assumption) (by kernel_rfl) ?_
                  (refine thenD_n ?_; refine AW.cond_lt rfl rfl ?_; refine zq ?_; (conv => rhs; simp only [Nf.all, Nat.reduceBEq, reduceAdd, reduceSub]); refine za ?_; refine zd ?_; refine AW.ret ?_; refine thenD_ret ?_; refine inBlockD_ret ?_; (iterate 2 refine thenD_ret ?_); (iterate 2 refine inBlockD_ret ?_); (iterate 2 refine thenD_ret ?_); refine inBlockD_ret ?_; refine thenD_ret ?_)
                  (apply ends_ret; (exact Res.one (.tmp rfl rfl)); (refine Le.litB ?_; (exact he.symm)))
                | true =>
                  rw [h4] at hin hce
                  rw [Bool.true_and] at hce
                  (refine zq ?_; refine zs ?_; refine zd ?_; refine zo ?_; refine zc ?_; refine AW.skip ?_; refine thenD_n ?_; refine zo ?_; refine AW.block ?_; refine zq ?_; (conv => rhs; simp only [Nf.all, Nat.reduceBEq, reduceAdd, reduceSub]); refine zm ?_; (focus ((with_reducible apply AOps.index_map); (iterate 7 exact rfl); rotate_left; omega)); refine AOps.load_rn rfl rfl rfl rfl ?_; (conv => rhs; simp only [Nf.all, Nat.reduceBEq, reduceAdd, reduceSub]); refine AOps.allocN' rfl rfl rfl rfl ?_; (conv => rhs; simp only [Nf.all, Nat.reduceBEq, reduceAdd, reduceSub]); refine za ?_; refine AOps.store_bn rfl rfl rfl rfl rfl rfl rfl rfl rfl (by with_reducible assumption) ?_; (conv => rhs; simp only [Nf.all, Nat.reduceBEq, reduceAdd, reduceSub]); refine zd ?_; refine zq ?_; (iterate 2 refine zm ?_); (focus ((with_reducible apply AOps.index_map); (iterate 7 exact rfl); rotate_left; omega)); refine AOps.load_rn rfl rfl rfl rfl ?_; (conv => rhs; simp only [Nf.all, Nat.reduceBEq, reduceAdd, reduceSub]); refine AOps.allocN' rfl rfl rfl rfl ?_; (conv => rhs; simp only [Nf.all, Nat.reduceBEq, reduceAdd, reduceSub]); refine AOps.store_bn rfl rfl rfl rfl rfl rfl rfl rfl rfl (by with_reducible assumption) ?_; (conv => rhs; simp only [Nf.all, Nat.reduceBEq, reduceAdd, reduceSub]); refine zd ?_; (iterate 2 refine zo ?_))
                  refine AW.regionE [0,1,2,3,4,5,6,7,8] [19] rfl (by assumption) (by kernel_rfl) rfl ?_
                  show AOps .held _ _ _ [_, _, _, _, _, _, _, _, _] _ _
                  (refine AOps.fieldAddrN 42 0 0 rfl rfl rfl rfl ?_; refine zb ?_; refine AOps.fieldAddrN 40 1 1 rfl rfl rfl rfl ?_; refine zb ?_; refine zn ?_; refine AOps.neq rfl rfl rfl rfl rfl ?_; refine zm ?_; refine zy ?_; refine zm ?_; refine zy ?_; refine AOps.load_ball rfl rfl rfl rfl rfl ?_; (conv => rhs; simp only [Nf.all, Nat.reduceBEq, reduceAdd, reduceSub]); refine AOps.nil ?_; refine onlyN_n ?_)
                  intro k_ hk_
                  (try (conv => rhs; simp only [Nf.all, Nat.reduceBEq, reduceAdd, reduceSub]))
                  refine AR.step1 (i := 9) rfl (by kernel_rfl) rfl ?_
                  intro g_ hgro_ hw_
                  
                  (refine zy ?_; refine AOps.call (hrv) (.cons rfl (.pv _) (.cons rfl (.aggL (.cons (.pv _) (.cons (.pv _) .nil))) .nil)) rfl rfl (fun h_ => by cases h_) ?_; refine AOps.nil ?_; refine onlyN_n ?_)
                  refine AR.step1 (i := 10) rfl (by kernel_rfl) rfl ?_
                  intro g_ hgro_ hw_
                  (refine zy ?_; refine AOps.not rfl rfl rfl ?_; refine AOps.nil ?_; refine onlyN_n ?_)
                  refine AR.step1 (i := 11) rfl (by kernel_rfl) rfl ?_
                  intro g_ hgro_ hw_
                  (refine AOps.pickF_pv rfl rfl (by first | omega | decide) rfl rfl rfl rfl ?_; refine AOps.nil ?_; refine onlyN_n ?_)
                  refine AR.step1 (i := 12) rfl (by kernel_rfl) rfl ?_
                  intro g_ hgro_ hw_
                  (refine zm ?_; refine AOps.nil ?_; refine onlyN_n ?_)
                  refine AR.reads [13,14,16,15,17] (by kernel_rfl) (by kernel_rfl) (by kernel_rfl) ?_
                  intro g_ hgro_
                  show AOps .held _ _ _ [_, _, _, _, _] _ _
                  (refine zl ?_; refine AOps.load_ball rfl rfl rfl rfl rfl ?_; (conv => rhs; simp only [Nf.all, Nat.reduceBEq, reduceAdd, reduceSub]); refine zl ?_; refine AOps.fieldAddrN 33 0 0 rfl rfl rfl rfl ?_; refine zl ?_; refine AOps.fieldAddrN 40 1 1 rfl rfl rfl rfl ?_; refine zl ?_; (with_reducible apply AOps.load_bs); (iterate 3 exact rfl); (repeat' first | exact Sub.nil | apply Sub.take | apply Sub.skip); (iterate 3 exact rfl); refine zl ?_; refine zb ?_; refine AOps.nil ?_; refine onlyN_n ?_)
                  intro k_ hk_
                  (try (conv => rhs; simp only [Nf.all, Nat.reduceBEq, reduceAdd, reduceSub]))
                  refine AR.step1 (i := 18) rfl (by kernel_rfl) rfl ?_
                  intro g_ hgro_ hw_
                  
                  (refine zl ?_; refine AOps.callp (hcf) (.cons rfl (.aggL (.cons (.pv _) (.cons (.pv _) .nil))) (.cons rfl (.pv _) .nil)) rfl ?_; refine AOps.nil ?_; refine onlyN_n ?_)
                  refine AR.step1L (i := 19) rfl (by kernel_rfl) rfl (by kernel_rfl) ?_
                  intro g_ hgro_ hwt2_
                  (refine zl ?_; refine AOps.call (hin) (.cons rfl (.aggL (.cons (.pv _) (.cons (.pv _) .nil))) (.cons rfl (.aggL (.cons (.pv _) (.cons (.pv _) .nil))) .nil)) rfl rfl (fun h_ => by cases h_) ?_; refine AOps.nil ?_; refine onlyN_n ?_)
                  refine AR.step1L (i := 20) rfl (by kernel_rfl) rfl (by kernel_rfl) ?_
                  intro g_ hgro_ hwt2_
                  (refine zl ?_; refine AOps.not rfl rfl rfl ?_; refine AOps.nil ?_; refine onlyN_n ?_)
                  refine AR.step1L (i := 21) rfl (by kernel_rfl) rfl (by kernel_rfl) ?_
                  intro g_ hgro_ hwt2_
                  (refine AOps.pick_lf rfl rfl rfl rfl rfl rfl ?_; refine AOps.nil ?_; refine onlyN_n ?_)
                  refine AR.done (by assumption) (by kernel_rfl) ?_
                  (refine thenD_n ?_; refine AW.cond_lf rfl rfl ?_; refine AW.skip ?_; refine thenD_n ?_; refine zo ?_)
                  have heq := relEqual_fn ss[j][i] ((ss[Int.toNat 0]'(by show 0 < _; omega))[i])
                  cases hv : fs[i].var with
                  | true =>
                    rw [hv, Bool.true_or, Bool.true_and] at hce
                    have hv' : (!fs[i].var) = false := by rw [hv]; rfl
                    (refine AW.regionQ rfl rfl (by kernel_rfl) (by with_reducible assumption) ?_; refine AOps.fieldAddrN 40 2 2 rfl rfl rfl rfl ?_; refine zb ?_; refine AOps.not rfl rfl rfl ?_; refine zm ?_; (iterate 10 refine AOps.guard_lf rfl rfl rfl rfl rfl (by assumption) rfl ?_); refine AOps.pickBf rfl rfl (by assumption) rfl rfl rfl rfl ?_; refine zd ?_; refine AW.cond_lf rfl rfl ?_; refine AW.skip ?_; refine inBlockD_n ?_; refine thenD_n ?_; refine AW.region ?_; (conv => rhs; simp only [Nf.all, Nat.reduceBEq, reduceAdd, reduceSub]); refine AOps.add rfl rfl rfl rfl rfl (by omega) ?_; refine zm ?_; refine zd ?_)
                    exact ⟨i + 1, ⟨by omega, hce⟩, by omega, weak rfl (by (first | (refine ⟨.eq rfl rfl, ?_⟩; (iterate 9 refine ⟨.eq rfl rfl, ?_⟩); exact trivial) | (refine ⟨.eq rfl rfl, ?_⟩; (iterate 5 refine ⟨.eq rfl rfl, ?_⟩); exact trivial))) (by (refine ⟨.box _ rfl ?_, ?_⟩; (iterate 4 refine ⟨.eq rfl rfl, ?_⟩); exact trivial; refine ⟨.box _ rfl ?_, ?_⟩; (iterate 4 refine ⟨.eq rfl rfl, ?_⟩); (iterate 2 exact trivial))) rfl⟩
                  | false =>
                    rw [hv, Bool.false_or] at hce
                    have hv' : (!fs[i].var) = true := by rw [hv]; rfl
                    by_cases h6 : ss[j][i] = ((ss[Int.toNat 0]'(by show 0 < _; omega))[i])
                    · rw [decide_eq_true h6] at heq hce
                      rw [Bool.true_and] at hce
                      (refine AW.regionQ rfl rfl (by kernel_rfl) (by with_reducible assumption) ?_; refine AOps.fieldAddrN 40 2 2 rfl rfl rfl rfl ?_; refine zb ?_; refine AOps.not rfl rfl rfl ?_; refine zm ?_; refine AOps.guard_lt rfl rfl rfl rfl rfl (by assumption) rfl ?_; refine AOps.load_ball rfl rfl rfl rfl rfl ?_; (conv => rhs; simp only [Nf.all, Nat.reduceBEq, reduceAdd, reduceSub]); refine AOps.guard_lt rfl rfl rfl rfl rfl (by assumption) rfl ?_; refine AOps.fieldAddrN 33 1 2 rfl rfl rfl rfl ?_; refine AOps.guard_lt rfl rfl rfl rfl rfl (by assumption) rfl ?_; refine zb ?_; refine AOps.guard_lt rfl rfl rfl rfl rfl (by assumption) rfl ?_; (focus ((with_reducible apply AOps.index_map); (iterate 7 exact rfl); rotate_left; omega)); refine AOps.guard_lt rfl rfl rfl rfl rfl (by assumption) rfl ?_; refine zr ?_; refine AOps.guard_lt rfl rfl rfl rfl rfl (by assumption) rfl ?_; refine zm ?_; refine AOps.guard_lt rfl rfl rfl rfl rfl (by assumption) rfl ?_; (focus ((with_reducible apply AOps.index_map); (iterate 7 exact rfl); rotate_left; omega)); refine AOps.guard_lt rfl rfl rfl rfl rfl (by assumption) rfl ?_; refine AOps.load_rn rfl rfl rfl rfl ?_; (conv => rhs; simp only [Nf.all, Nat.reduceBEq, reduceAdd, reduceSub]); refine AOps.guard_lt rfl rfl rfl rfl rfl (by assumption) rfl ?_; refine AOps.call (heq) (.cons rfl (.aggL (.cons (.pv _) (.cons (.pv _) .nil))) (.cons rfl (.aggL (.cons (.pv _) (.cons (.pv _) .nil))) .nil)) rfl rfl (fun h_ => by cases h_) ?_; refine AOps.guard_lt rfl rfl rfl rfl rfl (by assumption) rfl ?_; refine AOps.not rfl rfl rfl ?_; refine AOps.pickBt rfl rfl (by assumption) rfl rfl rfl rfl ?_; refine zd ?_; refine AW.cond_lf rfl rfl ?_; refine AW.skip ?_; refine inBlockD_n ?_; refine thenD_n ?_; refine AW.region ?_; (conv => rhs; simp only [Nf.all, Nat.reduceBEq, reduceAdd, reduceSub]); refine AOps.add rfl rfl rfl rfl rfl (by omega) ?_; refine zm ?_; refine zd ?_)
                      exact ⟨i + 1, ⟨by omega, hce⟩, by omega, weak rfl (by (first | (refine ⟨.eq rfl rfl, ?_⟩; (iterate 9 refine ⟨.eq rfl rfl, ?_⟩); exact trivial) | (refine ⟨.eq rfl rfl, ?_⟩; (iterate 5 refine ⟨.eq rfl rfl, ?_⟩); exact trivial))) (by (refine ⟨.box _ rfl ?_, ?_⟩; (iterate 4 refine ⟨.eq rfl rfl, ?_⟩); exact trivial; refine ⟨.box _ rfl ?_, ?_⟩; (iterate 4 refine ⟨.eq rfl rfl, ?_⟩); (iterate 2 exact trivial))) rfl⟩
                    · rw [decide_eq_false h6] at heq hce
                      rw [Bool.false_and] at hce
                      rw [hce, Bool.false_and] at he
                      (refine AW.regionQ rfl rfl (by kernel_rfl) (by with_reducible assumption) ?_; refine AOps.fieldAddrN 40 2 2 rfl rfl rfl rfl ?_; refine zb ?_; refine AOps.not rfl rfl rfl ?_; refine zm ?_; refine AOps.guard_lt rfl rfl rfl rfl rfl (by assumption) rfl ?_; refine AOps.load_ball rfl rfl rfl rfl rfl ?_; (conv => rhs; simp only [Nf.all, Nat.reduceBEq, reduceAdd, reduceSub]); refine AOps.guard_lt rfl rfl rfl rfl rfl (by assumption) rfl ?_; refine AOps.fieldAddrN 33 1 2 rfl rfl rfl rfl ?_; refine AOps.guard_lt rfl rfl rfl rfl rfl (by assumption) rfl ?_; refine zb ?_; refine AOps.guard_lt rfl rfl rfl rfl rfl (by assumption) rfl ?_; (focus ((with_reducible apply AOps.index_map); (iterate 7 exact rfl); rotate_left; omega)); refine AOps.guard_lt rfl rfl rfl rfl rfl (by assumption) rfl ?_; refine zr ?_; refine AOps.guard_lt rfl rfl rfl rfl rfl (by assumption) rfl ?_; refine zm ?_; refine AOps.guard_lt rfl rfl rfl rfl rfl (by assumption) rfl ?_; (focus ((with_reducible apply AOps.index_map); (iterate 7 exact rfl); rotate_left; omega)); refine AOps.guard_lt rfl rfl rfl rfl rfl (by assumption) rfl ?_; refine AOps.load_rn rfl rfl rfl rfl ?_; (conv => rhs; simp only [Nf.all, Nat.reduceBEq, reduceAdd, reduceSub]); refine AOps.guard_lt rfl rfl rfl rfl rfl (by assumption) rfl ?_; refine AOps.call (heq) (.cons rfl (.aggL (.cons (.pv _) (.cons (.pv _) .nil))) (.cons rfl (.aggL (.cons (.pv _) (.cons (.pv _) .nil))) .nil)) rfl rfl (fun h_ => by cases h_) ?_; refine AOps.guard_lt rfl rfl rfl rfl rfl (by assumption) rfl ?_; refine AOps.not rfl rfl rfl ?_; refine AOps.pickBt rfl rfl (by assumption) rfl rfl rfl rfl ?_; refine zd ?_; refine AW.cond_lt rfl rfl ?_; refine zq ?_; (conv => rhs; simp only [Nf.all, Nat.reduceBEq, reduceAdd, reduceSub]); refine za ?_; refine zd ?_; refine AW.ret ?_; refine inBlockD_ret ?_; (iterate 2 refine thenD_ret ?_); (iterate 2 refine inBlockD_ret ?_); (iterate 2 refine thenD_ret ?_); refine inBlockD_ret ?_; refine thenD_ret ?_)
                      (apply ends_ret; (exact Res.one (.tmp rfl rfl)); (refine Le.litB ?_; (exact he.symm)))
            · rw [decide_eq_false h2, Bool.false_and, Bool.false_and] at hce
              rw [hce, Bool.false_and] at he
              (refine zq ?_; refine zs ?_; refine zd ?_; refine zo ?_; refine zc ?_; refine AW.skip ?_; refine thenD_n ?_; refine zo ?_; refine AW.block ?_; refine zq ?_; (conv => rhs; simp only [Nf.all, Nat.reduceBEq, reduceAdd, reduceSub]); refine zm ?_; (focus ((with_reducible apply AOps.index_map); (iterate 7 exact rfl); rotate_left; omega)); refine AOps.load_rn rfl rfl rfl rfl ?_; (conv => rhs; simp only [Nf.all, Nat.reduceBEq, reduceAdd, reduceSub]); refine AOps.allocN' rfl rfl rfl rfl ?_; (conv => rhs; simp only [Nf.all, Nat.reduceBEq, reduceAdd, reduceSub]); refine za ?_; refine AOps.store_bn rfl rfl rfl rfl rfl rfl rfl rfl rfl (by with_reducible assumption) ?_; (conv => rhs; simp only [Nf.all, Nat.reduceBEq, reduceAdd, reduceSub]); refine zd ?_; refine zq ?_; (iterate 2 refine zm ?_); (focus ((with_reducible apply AOps.index_map); (iterate 7 exact rfl); rotate_left; omega)); refine AOps.load_rn rfl rfl rfl rfl ?_; (conv => rhs; simp only [Nf.all, Nat.reduceBEq, reduceAdd, reduceSub]); refine AOps.allocN' rfl rfl rfl rfl ?_; (conv => rhs; simp only [Nf.all, Nat.reduceBEq, reduceAdd, reduceSub]); refine AOps.store_bn rfl rfl rfl rfl rfl rfl rfl rfl rfl (by with_reducible assumption) ?_; (conv => rhs; simp only [Nf.all, Nat.reduceBEq, reduceAdd, reduceSub]); refine zd ?_; (iterate 2 refine zo ?_); refine AW.regionQ rfl rfl (by kernel_rfl) (by with_reducible assumption) ?_; refine AOps.fieldAddrN 42 0 0 rfl rfl rfl rfl ?_; refine zb ?_; refine AOps.fieldAddrN 40 1 1 rfl rfl rfl rfl ?_; refine zb ?_; refine zn ?_; refine AOps.neq rfl rfl rfl rfl rfl ?_; refine zm ?_; (iterate 4 refine AOps.guardFn rfl rfl rfl rfl rfl rfl (by with_reducible assumption) ?_); refine AOps.pickT_pv rfl rfl (by with_reducible assumption) rfl rfl rfl rfl ?_; refine zm ?_; (iterate 8 refine AOps.guard_lf rfl rfl rfl rfl rfl rfl rfl ?_); refine AOps.pick_lt rfl rfl rfl rfl rfl rfl ?_; refine zd ?_; refine AW.cond_lt rfl rfl ?_; refine zq ?_; (conv => rhs; simp only [Nf.all, Nat.reduceBEq, reduceAdd, reduceSub]); refine za ?_; refine zd ?_; refine AW.ret ?_; refine thenD_ret ?_; refine inBlockD_ret ?_; (iterate 2 refine thenD_ret ?_); (iterate 2 refine inBlockD_ret ?_); (iterate 2 refine thenD_ret ?_); refine inBlockD_ret ?_; refine thenD_ret ?_)
              (apply ends_ret; (exact Res.one (.tmp rfl rfl)); (refine Le.litB ?_; (exact he.symm)))
          · obtain rfl : i = fs.length := by omega
            rw [List.drop_length] at hce
            have hce : cellsB n full fs ss[j] (ss[Int.toNat 0]'(by show 0 < _; omega)) = true := hce
            rw [hce, Bool.true_and] at he
            (refine zq ?_; refine zs ?_; refine zd ?_; refine zo ?_; refine zk ?_; refine AW.exit ?_; (iterate 2 refine thenD_exit ?_); refine inBlockD_exit ?_; refine inBlockD_n ?_; refine thenD_n ?_; refine AW.region ?_; (conv => rhs; simp only [Nf.all, Nat.reduceBEq, reduceAdd, reduceSub]); refine AOps.add rfl rfl rfl rfl rfl (by omega) ?_; refine zm ?_; refine zd ?_)
            exact ⟨j + 1, ⟨by omega, he, fun _ => hlen0⟩, by omega, weak rfl (by (first | (refine ⟨.eq rfl rfl, ?_⟩; (iterate 9 refine ⟨.eq rfl rfl, ?_⟩); exact trivial) | (refine ⟨.eq rfl rfl, ?_⟩; (iterate 5 refine ⟨.eq rfl rfl, ?_⟩); exact trivial))) (by (refine ⟨.box _ rfl ?_, ?_⟩; (iterate 4 refine ⟨.eq rfl rfl, ?_⟩); exact trivial; refine ⟨.box _ rfl ?_, ?_⟩; (iterate 4 refine ⟨.eq rfl rfl, ?_⟩); (iterate 2 exact trivial))) rfl⟩
        · have es : stateB n full fs (ss[Int.toNat 0]'(by show 0 < _; omega)) ss[j] = false := by unfold stateB; rw [decide_eq_false hsl, Bool.false_and]
          rw [es, Bool.false_and] at he
          (refine zq ?_; refine zs ?_; refine zd ?_; refine zo ?_; refine zc ?_; refine AW.skip ?_; refine thenD_n ?_; refine zo ?_; refine AW.block ?_; refine zq ?_; (conv => rhs; simp only [Nf.all, Nat.reduceBEq, reduceAdd, reduceSub]); (focus ((with_reducible apply AOps.index_map); (iterate 7 exact rfl); rotate_left; omega)); refine zr ?_; refine za ?_; refine zd ?_; refine zo ?_; refine zq ?_; (conv => rhs; simp only [Nf.all, Nat.reduceBEq, reduceAdd, reduceSub]); refine zm ?_; refine zn ?_; refine AOps.fieldAddrN 27 1 1 rfl rfl rfl rfl ?_; refine zb ?_; refine zn ?_; refine AOps.neq rfl rfl rfl rfl rfl ?_; refine zd ?_; refine zc ?_; refine zq ?_; (conv => rhs; simp only [Nf.all, Nat.reduceBEq, reduceAdd, reduceSub]); refine za ?_; refine zd ?_; refine AW.ret ?_; refine thenD_ret ?_; refine inBlockD_ret ?_; (iterate 2 refine thenD_ret ?_); refine inBlockD_ret ?_; refine thenD_ret ?_)
          all_goals (apply ends_ret; (exact Res.one (.tmp rfl rfl)); (refine Le.litB ?_; (exact he.symm)))
      · obtain rfl : j = ss.length := by omega
        rw [List.drop_length] at he
        have he : statesB n full fs (ss[Int.toNat 0]'(by show 0 < _; omega)) ss = true := he
        rw [he]
        (refine zq ?_; refine zs ?_; refine zd ?_; refine zo ?_; refine zk ?_; refine AW.exit ?_; (iterate 2 refine thenD_exit ?_); refine inBlockD_exit ?_; refine thenD_n ?_; refine zq ?_; (conv => rhs; simp only [Nf.all, Nat.reduceBEq, reduceAdd, reduceSub]); refine za ?_; refine zd ?_; refine AW.ret ?_)
        (apply ends_ret; (exact Res.one (.tmp rfl rfl)); (refine Le.litB ?_; (rfl)))
  · have e1 : shapeB ⟨at', st, ss, lp⟩ = false := decide_eq_false h1
    rw [e1, Bool.false_and]
    refine Fn.enter (n := 119) Try.func6 rfl rfl rfl rfl rfl (by decide) fun g hro_ hwt_ => ?_; (try (conv => rhs; simp only [Nf.all, Nat.reduceBEq, reduceAdd, reduceSub]))
    (refine zq ?_; refine AOps.box rfl rfl rfl rfl ?_; (conv => rhs; simp only [Nf.all, Nat.reduceBEq, reduceAdd, reduceSub]); refine AOps.box rfl rfl rfl rfl ?_; (conv => rhs; simp only [Nf.all, Nat.reduceBEq, reduceAdd, reduceSub]); refine za ?_; refine zd ?_; refine zo ?_; refine zq ?_; (conv => rhs; simp only [Nf.all, Nat.reduceBEq, reduceAdd, reduceSub]); refine AOps.load_ball rfl rfl rfl rfl rfl ?_; (conv => rhs; simp only [Nf.all, Nat.reduceBEq, reduceAdd, reduceSub]); refine AOps.fieldAddrN 33 0 0 rfl rfl rfl rfl ?_; (with_reducible apply AOps.load_bs); (iterate 3 exact rfl); (repeat' first | exact Sub.nil | apply Sub.take | apply Sub.skip); (iterate 3 exact rfl); refine AOps.call (hu) (.cons rfl (.aggL (.cons (.pv _) (.cons (.pv _) (.cons (.pv _) (.cons (.pv _) .nil))))) (.cons rfl (.aggL (.cons (.pv _) (.cons (.pv _) .nil))) .nil)) rfl rfl (fun h_ => by cases h_) ?_; refine AOps.not rfl rfl rfl ?_; refine zm ?_; refine zl ?_; refine AOps.fieldAddrN 33 1 2 rfl rfl rfl rfl ?_; refine zl ?_; refine zb ?_; refine zl ?_; refine zn ?_; refine zl ?_; refine AOps.fieldAddrN 33 0 0 rfl rfl rfl rfl ?_; refine zl ?_; refine AOps.fieldAddrN 30 1 1 rfl rfl rfl rfl ?_; refine zl ?_; refine zb ?_; refine zl ?_; refine AOps.neq rfl rfl rfl rfl rfl ?_; refine AOps.pick_lf rfl rfl rfl rfl rfl rfl ?_; refine zm ?_; (focus ((with_reducible apply AOps.guardF); (iterate 6 exact rfl); all_goals intro hc_)); refine AOps.fieldAddrN 33 2 3 rfl rfl rfl rfl ?_; refine AOps.guardFy rfl rfl rfl rfl rfl rfl (by with_reducible assumption) ?_; refine zb ?_; refine AOps.guardFy rfl rfl rfl rfl rfl rfl (by with_reducible assumption) ?_; refine zs ?_; refine AOps.pickF_pv rfl rfl (by with_reducible assumption) rfl rfl rfl rfl ?_; refine zm ?_; (focus ((with_reducible apply AOps.guardF); (iterate 6 exact rfl); all_goals intro hc_)); refine AOps.fieldAddrN 33 2 3 rfl rfl rfl rfl ?_; refine AOps.guardFy rfl rfl rfl rfl rfl rfl (by with_reducible assumption) ?_; refine zb ?_; refine AOps.guardFy rfl rfl rfl rfl rfl rfl (by with_reducible assumption) ?_; refine AOps.fieldAddrN 33 1 2 rfl rfl rfl rfl ?_; refine AOps.guardFy rfl rfl rfl rfl rfl rfl (by with_reducible assumption) ?_; refine zb ?_; refine AOps.guardFy rfl rfl rfl rfl rfl rfl (by with_reducible assumption) ?_; refine zn ?_; refine AOps.guardFy rfl rfl rfl rfl rfl rfl (by with_reducible assumption) ?_; refine AOps.geq rfl rfl rfl rfl rfl ?_; refine AOps.pickF_pv rfl rfl (by with_reducible assumption) rfl rfl rfl rfl ?_; refine zd ?_; refine zc ?_; refine zq ?_; (conv => rhs; simp only [Nf.all, Nat.reduceBEq, reduceAdd, reduceSub]); refine za ?_; refine zd ?_; refine AW.ret ?_; refine thenD_ret ?_; (all_goals skip); rotate_left; (iterate 5 refine AOps.guardFn rfl rfl rfl rfl rfl rfl (by with_reducible assumption) ?_); refine AOps.pickT_pv rfl rfl (by with_reducible assumption) rfl rfl rfl rfl ?_; refine zd ?_; refine AW.cond_lt rfl rfl ?_; refine zq ?_; (conv => rhs; simp only [Nf.all, Nat.reduceBEq, reduceAdd, reduceSub]); refine za ?_; refine zd ?_; refine AW.ret ?_; refine thenD_ret ?_; (all_goals skip); rotate_left; (iterate 2 refine AOps.guardFn rfl rfl rfl rfl rfl rfl (by with_reducible assumption) ?_); refine AOps.pickT_pv rfl rfl (by with_reducible assumption) rfl rfl rfl rfl ?_; refine zm ?_; (iterate 6 refine AOps.guard_lf rfl rfl rfl rfl rfl rfl rfl ?_); refine AOps.pick_lt rfl rfl rfl rfl rfl rfl ?_; refine zd ?_; refine AW.cond_lt rfl rfl ?_; refine zq ?_; (conv => rhs; simp only [Nf.all, Nat.reduceBEq, reduceAdd, reduceSub]); refine za ?_; refine zd ?_; refine AW.ret ?_; refine thenD_ret ?_; (all_goals skip); rotate_left)
    all_goals (apply ends_ret; (exact Res.one (.tmp rfl rfl)); (refine Le.litB ?_; (rfl)))
end Go.Ab
